/- Texts of ours, joined: Wk2. -/
import Derived.Test.YtnoofjkaeidagaaDoorQSpendMessages5
set_option linter.unusedVariables false
set_option linter.unusedSimpArgs false
namespace Go.Proofs.YtnoofjkaeidagaaDoor
open Go Go.Vm
set_option maxRecDepth 20000 in
set_option maxHeartbeats 1000000 in
theorem sha_Sum_ok (N : Nat) (b : List Int) (r : (List Int)) (hr : sha_Sum N b = some r) :
    Vm.Fn Tryd.prog 32 [] [(.row none 1 (b.map (eI .u8)))] (.agg (r.map (eI .u8))) [] := by
  refine fn_ab Tryd.func32 rfl (by kernel_rfl) Tryd.ntmps32 zl rfl (fr := [(0, (.row none 1 (b.map (eI .u8))))]) rfl ?_
  unfold sha_Sum at hr
  refine zq <| wS (v := (.ptr 0 0)) (h' := [some ⟨33, (List.replicate 32 0).map (eI .u8)⟩]) (sv (d_alloc ti33 rfl rfl rfl)) <| zn <| AB.seq ?_
  replace hr := bnd hr; obtain ⟨x12, h_1, hr⟩ := hr
  replace hr := bnd hr; obtain ⟨x14, h_2, hr⟩ := hr
  refine AB.rw <| zm rfl <| zm rfl <| wS (v := (eI .i64 (b.length : Int))) (sv (d_len rfl (lenR ti27))) <| wS (sv (d_conv rfl (conv_int _ ⟨_, ti3⟩ ti65 rfl))) <| wC (v := (.sl 1 0 x12.length 1 false)) (h' := [some ⟨33, (List.replicate 32 0).map (eI .u8)⟩, some ⟨5, x12.map (eI .u8)⟩]) rfl (zB (sha_Pad_ok N (IntKind.u64.wrap (b.length : Int)) x12 h_1) []) ?_
  refine OpsW.ghost (Ghost.conv (fr' := [(0, (.row none 1 (b.map (eI .u8)))), (2, (.ptr 0 0)), (8, (.row none 1 (b.map (eI .u8)))), (9, (.row none 1 (b.map (eI .u8)))), (10, (eI .i64 (b.length : Int))), (11, (eI .u64 (IntKind.u64.wrap (b.length : Int)))), (12, (.row none 1 (x12.map (eI .u8))))]) (h' := [some ⟨33, (List.replicate 32 0).map (eI .u8)⟩, none]) (FCv.cons rfl (Conv.same (subB_sub rfl)) (FCv.cons rfl (Conv.same (subB_sub rfl)) (FCv.cons rfl (Conv.same (subB_sub rfl)) (FCv.cons rfl (Conv.same (subB_sub rfl)) (FCv.cons rfl (Conv.same (subB_sub rfl)) (FCv.cons rfl (Conv.same (subB_sub rfl)) (FCv.cons rfl (Conv.row (subB_sub rfl) rfl rfl (all_mapE (fun _ => rfl)) (by first | rfl | (simp only [List.length_map, len_set, len_cpy]; done))) FCv.nil))))))) (HCv.live (Convs.same (subB_sub rfl)) (all_map (fun _ => rfl) _) (HCv.dead HCv.nil))) ?_
  refine wS (v := (.sl 2 0 2 1 false)) (h' := [some ⟨33, (List.replicate 32 0).map (eI .u8)⟩, none, some ⟨27, [b, x12].map (eL 1 (eI .u8))⟩]) (sv (d_buildS rfl (bldL1 (xs := [b, x12].map (eL 1 (eI .u8))) ti40 ti27 zl zl rfl rfl rfl rfl rfl rfl rfl))) <| wC (v := (.sl 3 0 x14.length 1 false)) (h' := [some ⟨33, (List.replicate 32 0).map (eI .u8)⟩, none, some ⟨27, [b, x12].map (eL 1 (eI .u8))⟩, some ⟨5, x14.map (eI .u8)⟩]) rfl (zL (sha_row_ok N [b, x12] x14 h_2) [] [2]) <| za rfl <| zn <| zq <| wS (v := (.agg (shaI.map (eI .u32)))) (sv (d_load rfl (ldAE (E := (eI .u32)) (l := shaI) ti70 rfl rfl))) ?_
  refine wS (v := (.ptr 4 0)) (h' := [some ⟨33, (List.replicate 32 0).map (eI .u8)⟩, none, some ⟨27, [b, x12].map (eL 1 (eI .u8))⟩, some ⟨5, x14.map (eI .u8)⟩, some ⟨70, (List.replicate 8 0).map (eI .u32)⟩]) (sv (d_alloc ti70 rfl rfl rfl)) <| wN (h' := [some ⟨33, (List.replicate 32 0).map (eI .u8)⟩, none, some ⟨27, [b, x12].map (eL 1 (eI .u8))⟩, some ⟨5, x14.map (eI .u8)⟩, some ⟨70, shaI.map (eI .u32)⟩]) (sv (d_store rfl rfl (stA (E := (eI .u32)) (l := List.replicate 8 0) ti70 rfl rfl (fun _ => rfl) rfl rfl rfl))) <| zn ?_
  refine AB.seq_g fun K1 hK1 hG1 => ?_
  have J1 : ∀ (l1 : List Int), sha_Sum_J1 N l1 = some r → K1 (mkF 48 [(2, (.ptr 0 0)), (4, (.ptr 1 0))]) [some ⟨33, (List.replicate 32 0).map (eI .u8)⟩, some ⟨70, l1.map (eI .u32)⟩] := by
    intro l1 hr
    unfold sha_Sum_J1 at hr
    refine hK1 _ _ <| zq <| wS (v := (.ptr 2 0)) (h' := [some ⟨33, (List.replicate 32 0).map (eI .u8)⟩, some ⟨70, l1.map (eI .u32)⟩, some ⟨33, (List.replicate 32 0).map (eI .u8)⟩]) (sv (d_alloc ti33 rfl rfl rfl)) <| zn ?_
    refine AB.seq_g fun K2 hK2 hG2 => ?_
    have J2 : ∀ (l1_1 : List Int), sha_Sum_J2 N l1_1 = some r → K2 (mkF 48 [(2, (.ptr 0 0)), (6, (.ptr 1 0))]) [some ⟨33, (List.replicate 32 0).map (eI .u8)⟩, some ⟨33, l1_1.map (eI .u8)⟩] := by
      intro l1_1 hr
      unfold sha_Sum_J2 at hr
      refine hK2 _ _ <| AB.seq ?_
      replace hr := bnd hr; obtain ⟨q, h_3, hr⟩ := hr
      refine AB.rw <| wS (v := (.agg (l1_1.map (eI .u8)))) (sv (d_load rfl (ldA (E := (eI .u8)) (l := l1_1) ti33 rfl rfl (arr_len h_3)))) <| wN (h' := [some ⟨33, l1_1.map (eI .u8)⟩, some ⟨33, l1_1.map (eI .u8)⟩]) (sv (d_store rfl rfl (stA (E := (eI .u8)) (l := List.replicate 32 0) ti33 rfl rfl (fun _ => rfl) rfl (arr_len h_3) rfl))) <| zn <| AB.ret ?_
      obtain rfl := Option.some.inj hr
      exact done_ret (r1 := (.agg (l1_1.map (eI .u8)))) (res1 Tryd.results32 (rvC rfl (ldA (E := (eI .u8)) (l := l1_1) ti33 rfl rfl (arr_len h_3)))) (zG [])
    refine zq <| wS (v := (eI .i64 0)) (sv (d_move rfl)) <| zn ?_
    replace hr := bnd hr; obtain ⟨res3, hL3, hr⟩ := hr
    refine AB.block <| AB.loopN (fun m s h => ∃ (x31 : Int) (l2 : List Int), sha_Sum_L3 N l1 m x31 l2 = some res3 ∧ Ghost 0 s h (mkF 48 [(2, (.ptr 0 0)), (4, (.ptr 1 0)), (6, (.ptr 2 0)), (31, (eI .i64 x31))]) [some ⟨33, (List.replicate 32 0).map (eI .u8)⟩, some ⟨70, l1.map (eI .u32)⟩, some ⟨33, l2.map (eI .u8)⟩]) (n := N) ⟨0, List.replicate 32 0, hL3, (zG [0, 1, 2])⟩ (by rintro s h ⟨_, _, h0, _⟩; simp [sha_Sum_L3] at h0) ?_
    rintro m3 s h ⟨x31, l2, hr3, hg⟩
    refine AB.ghost hg ?_
    clear hg hL3
    rw [sha_Sum_L3] at hr3
    refine zq <| wS (v := (eB (decide (x31 < 32)))) (sv (d_bin rfl rfl (bin_lss ..))) <| zn <| AB.seq ?_
    refine AB.cnd rfl (fun h4 => ?_) (fun h4 => ?_)
    · replace hr3 := iteT hr3 h4
      refine AB.skip <| Ex.then_mk <| AB.seq <| AB.block <| zq <| zm rfl <| za rfl <| zn ?_
      replace hr3 := bnd hr3; obtain ⟨x37, h_5, hr3⟩ := hr3
      replace hr3 := bnd hr3; obtain ⟨x43, h_6, hr3⟩ := hr3
      replace hr3 := bnd hr3; obtain ⟨x45, h_7, hr3⟩ := hr3
      refine AB.rw <| zm rfl <| zm rfl <| wS (v := (eI .i64 (IntKind.i64.wrap (Int.tdiv x31 4)))) (sv (d_bin rfl rfl (bin_quo' _ _ _ _ rfl))) <| wS (v := (.ptr 1 (Int.toNat (IntKind.i64.wrap (Int.tdiv x31 4))))) (sv (d_ia rfl rfl (iaB ti70 ti22 rfl h_5))) <| wS (v := (eI .u32 x37)) (sv (d_load rfl (ldX (E := (eI .u32)) (y := x37) ti22 rfl rfl (aix_idx h_5)))) <| zm rfl <| wS (v := (eI .i64 (Int.tmod x31 4))) (sv (d_bin rfl rfl (bin_rem' _ _ _ _ rfl))) <| wS (v := (eI .i64 (IntKind.i64.wrap ((Int.tmod x31 4) * 8)))) (sv (d_bin rfl rfl (bin_mul ..))) ?_
      refine wS (v := (eI .i64 (IntKind.i64.wrap (24 - (IntKind.i64.wrap ((Int.tmod x31 4) * 8)))))) (sv (d_bin rfl rfl (bin_sub ..))) <| wS (sv (d_bin rfl rfl (bin_shr' _ _ _ _ h_6))) <| wS (sv (d_conv rfl (conv_int _ ⟨_, ti22⟩ ti5 rfl))) <| wS (v := (.ptr 2 (Int.toNat x31))) (sv (d_ia rfl rfl (iaB ti33 ti5 rfl h_7))) <| wN (h' := [some ⟨33, (List.replicate 32 0).map (eI .u8)⟩, some ⟨70, l1.map (eI .u32)⟩, some ⟨33, (l2.set (Int.toNat x31) (IntKind.u8.wrap x43)).map (eI .u8)⟩]) (sv (d_store rfl rfl (stXe (E := (eI .u8)) (y := IntKind.u8.wrap x43) ti5 rfl rfl (aix_idx h_7) rfl rfl rfl))) <| OpsW.nil ?_
      refine Ex.inBlock_mk <| Ex.then_mk <| AB.rw <| wS (v := (eI .i64 (IntKind.i64.wrap (x31 + 1)))) (sv (d_bin rfl rfl (bin_add ..))) <| zm rfl <| zn ?_
      exact ⟨IntKind.i64.wrap (x31 + 1), l2.set (Int.toNat x31) (IntKind.u8.wrap x43), hr3, (zG [0, 1, 2])⟩
    · replace hr3 := iteF hr3 h4
      refine AB.exit <| Ex.then_exit_mk <| Ex.then_exit_mk <| Ex.inBlock_same_mk ?_
      obtain rfl := Option.some.inj hr3
      refine Ex.then_mk ?_
      exact hG2 _ _ _ _ (zG [0, 2]) (J2 l2 hr)
  refine zq <| zm rfl <| wS (v := (eI .i64 (x14.length : Int))) (sv (d_len rfl (lenS ti27))) <| wS (v := (eI .i64 (IntKind.i64.wrap (Int.tdiv (x14.length : Int) 64)))) (sv (d_bin rfl rfl (bin_quo' _ _ _ _ rfl))) <| wS (v := (eI .i64 0)) (sv (d_move rfl)) <| zn ?_
  refine AB.ghost (Ghost.conv (fr' := [(0, (.row none 1 (b.map (eI .u8)))), (2, (.ptr 0 0)), (3, (.row none 1 (x14.map (eI .u8)))), (4, (.ptr 4 0)), (8, (.row none 1 (b.map (eI .u8)))), (9, (.row none 1 (b.map (eI .u8)))), (10, (eI .i64 (b.length : Int))), (11, (eI .u64 (IntKind.u64.wrap (b.length : Int)))), (12, (.row none 1 (x12.map (eI .u8)))), (13, (.sl 2 0 2 1 false)), (14, (.row none 1 (x14.map (eI .u8)))), (15, (.agg (shaI.map (eI .u32)))), (16, (.row none 1 (x14.map (eI .u8)))), (17, (eI .i64 (x14.length : Int))), (18, (eI .i64 (IntKind.i64.wrap (Int.tdiv (x14.length : Int) 64)))), (19, (eI .i64 0))]) (h' := [some ⟨33, (List.replicate 32 0).map (eI .u8)⟩, none, some ⟨27, [b, x12].map (eL 1 (eI .u8))⟩, none, some ⟨70, shaI.map (eI .u32)⟩]) (FCv.cons rfl (Conv.same (subB_sub rfl)) (FCv.cons rfl (Conv.same (subB_sub rfl)) (FCv.cons rfl (Conv.row (subB_sub rfl) rfl rfl (all_mapE (fun _ => rfl)) (by first | rfl | (simp only [List.length_map, len_set, len_cpy]; done))) (FCv.cons rfl (Conv.same (subB_sub rfl)) (FCv.cons rfl (Conv.same (subB_sub rfl)) (FCv.cons rfl (Conv.same (subB_sub rfl)) (FCv.cons rfl (Conv.same (subB_sub rfl)) (FCv.cons rfl (Conv.same (subB_sub rfl)) (FCv.cons rfl (Conv.same (subB_sub rfl)) (FCv.cons rfl (Conv.same (subB_sub rfl)) (FCv.cons rfl (Conv.row (subB_sub rfl) rfl rfl (all_mapE (fun _ => rfl)) (by first | rfl | (simp only [List.length_map, len_set, len_cpy]; done))) (FCv.cons rfl (Conv.same (subB_sub rfl)) (FCv.cons rfl (Conv.row (subB_sub rfl) rfl rfl (all_mapE (fun _ => rfl)) (by first | rfl | (simp only [List.length_map, len_set, len_cpy]; done))) (FCv.cons rfl (Conv.same (subB_sub rfl)) (FCv.cons rfl (Conv.same (subB_sub rfl)) (FCv.cons rfl (Conv.same (subB_sub rfl)) FCv.nil)))))))))))))))) (HCv.live (Convs.same (subB_sub rfl)) (all_map (fun _ => rfl) _) (HCv.dead (HCv.live (Convs.same (subB_sub rfl)) (all_map (fun _ => rfl) _) (HCv.dead (HCv.live (Convs.same (subB_sub rfl)) (all_map (fun _ => rfl) _) HCv.nil)))))) ?_
  replace hr := bnd hr; obtain ⟨res4, hL4, hr⟩ := hr
  refine AB.block <| AB.loopN (fun m s h => ∃ (x19 : Int) (l1_2 : List Int), sha_Sum_L4 N x14 m x19 l1_2 = some res4 ∧ Ghost 0 s h (mkF 48 [(2, (.ptr 0 0)), (3, (.row none 1 (x14.map (eI .u8)))), (4, (.ptr 1 0)), (18, (eI .i64 (IntKind.i64.wrap (Int.tdiv (x14.length : Int) 64)))), (19, (eI .i64 x19))]) [some ⟨33, (List.replicate 32 0).map (eI .u8)⟩, some ⟨70, l1_2.map (eI .u32)⟩]) (n := N) ⟨0, shaI, hL4, (zG [0, 4])⟩ (by rintro s h ⟨_, _, h0, _⟩; simp [sha_Sum_L4] at h0) ?_
  rintro m4 s h ⟨x19, l1_2, hr4, hg⟩
  refine AB.ghost hg ?_
  clear hg hL4
  rw [sha_Sum_L4] at hr4
  refine zq <| wS (sv (d_bin rfl rfl (bin_lss ..))) <| zn <| AB.seq ?_
  refine AB.cnd rfl (fun h8 => ?_) (fun h8 => ?_)
  · replace hr4 := iteT hr4 h8
    refine AB.skip <| Ex.then_mk <| AB.seq <| AB.block <| zq <| zm rfl <| za rfl <| zn ?_
    replace hr4 := bnd hr4; obtain ⟨q_1, h_9, hr4⟩ := hr4
    replace hr4 := bnd hr4; obtain ⟨x26, h_10, hr4⟩ := hr4
    replace hr4 := bnd hr4; obtain ⟨x27, h_11, hr4⟩ := hr4
    replace hr4 := bnd hr4; obtain ⟨x29, h_12, hr4⟩ := hr4
    replace hr4 := bnd hr4; obtain ⟨q_2, h_14, hr4⟩ := hr4
    have hc13 : Vm.Fn Tryd.prog 50 [some ⟨33, (List.replicate 32 0).map (eI .u8)⟩, some ⟨70, l1_2.map (eI .u32)⟩] [(.agg (l1_2.map (eI .u32))), (.agg (x27.map (eI .u8)))] (.agg (x29.map (eI .u32))) [some ⟨33, (List.replicate 32 0).map (eI .u8)⟩, some ⟨70, l1_2.map (eI .u32)⟩] := (Vm.Fn.pure (sha_Compress_ok N l1_2 x27 x29 h_12) zR zR)
    refine AB.rg (Env.one mixed hc13 allF (fun _ _ => rfl)) (fun _ => by show drawOk allF _ = true; decide +kernel) <| tS (v := (.agg (l1_2.map (eI .u32)))) (sv (d_load rfl (ldA (E := (eI .u32)) (l := l1_2) ti70 rfl rfl (arr_len h_9)))) <| tS (sv (d_move rfl)) <| tS (sv (d_move rfl)) <| tS (v := (eI .i64 (IntKind.i64.wrap (64 * x19)))) (sv (d_bin rfl rfl (bin_mul ..))) <| tS (v := (.row none 1 (x26.map (eI .u8)))) (sv (d_slice rfl rfl rfl (slR ti27 ti5 rfl rfl h_10))) <| tS (v := (.eptr [.agg (x27.map (eI .u8))] 0 0)) (sv (d_sap rfl (apR (E := (eI .u8)) ti72 (fun _ => rfl) zl h_11))) ?_
    refine tS (v := (.agg (x27.map (eI .u8)))) (sv (d_load rfl (ldAE (E := (eI .u8)) (l := x27) ti72 rfl (arp_len h_11)))) <| tS (v := (.agg (x29.map (eI .u32)))) (h' := [some ⟨33, (List.replicate 32 0).map (eI .u8)⟩, some ⟨70, l1_2.map (eI .u32)⟩]) (sv (d_call rfl Env.one_O)) <| tN (h' := [some ⟨33, (List.replicate 32 0).map (eI .u8)⟩, some ⟨70, x29.map (eI .u32)⟩]) (sv (d_store rfl rfl (stA (E := (eI .u32)) (l := l1_2) ti70 rfl rfl (fun _ => rfl) (arr_len h_9) (arr_len h_14) rfl))) <| OpsTo.nil <| Ex.inBlock_mk <| Ex.then_mk <| AB.rw ?_
    refine wS (v := (eI .i64 (IntKind.i64.wrap (x19 + 1)))) (sv (d_bin rfl rfl (bin_add ..))) <| zm rfl <| zn ?_
    exact ⟨IntKind.i64.wrap (x19 + 1), x29, hr4, (zG [0, 1])⟩
  · replace hr4 := iteF hr4 h8
    refine AB.exit <| Ex.then_exit_mk <| Ex.then_exit_mk <| Ex.inBlock_same_mk ?_
    obtain rfl := Option.some.inj hr4
    refine Ex.then_mk ?_
    exact hG1 _ _ _ _ (zG [0, 1]) (J1 l1_2 hr)
set_option maxRecDepth 20000 in
set_option maxHeartbeats 1000000 in
theorem spend_digest_ok (N : Nat) (b : List Int) (r : (List Int)) (hr : spend_digest N b = some r) :
    Vm.Fn Tryd.prog 17 [] [(.row none 1 (b.map (eI .u8)))] (.row none 1 (r.map (eI .u8))) [] := by
  refine fn_ab Tryd.func17 rfl (by kernel_rfl) Tryd.ntmps17 zl rfl (fr := [(0, (.row none 1 (b.map (eI .u8))))]) rfl ?_
  unfold spend_digest at hr
  refine zq <| wS (v := (.row (some true) 1 [])) (sv (d_assign rfl)) <| zn <| AB.seq ?_
  replace hr := bnd hr; obtain ⟨x5, h_1, hr⟩ := hr
  replace hr := bnd hr; obtain ⟨q, h_2, hr⟩ := hr
  refine AB.rw <| zm rfl <| wC rfl (Vm.Fn.pure (sha_Sum_ok N b x5 h_1) rfl zR) <| wS (v := (.ptr 0 0)) (h' := [some ⟨33, (List.replicate 32 0).map (eI .u8)⟩]) (sv (d_alloc ti33 rfl rfl rfl)) <| wN (h' := [some ⟨33, x5.map (eI .u8)⟩]) (sv (d_store rfl rfl (stA (E := (eI .u8)) (l := List.replicate 32 0) ti33 rfl rfl (fun _ => rfl) rfl (arr_len h_2) rfl))) <| zn <| zq <| wS (v := (.sl 0 0 32 1 false)) (sv (d_slice rfl rfl rfl (slA (E := (eI .u8)) (l := x5) ti33 ti5 rfl rfl rfl (arr_len h_2) ⟨zl, zl⟩))) <| za rfl <| zn <| AB.ret ?_
  obtain rfl := Option.some.inj hr
  exact done_ret (r1 := (.sl 0 0 32 1 false)) (res1 Tryd.results17 (rvT rfl)) (Ghost.trans (Ghost.conv (fr' := [(0, (.row none 1 (x5.map (eI .u8))))]) (h' := [none]) (FCv.cons rfl (Conv.row (subB_sub rfl) rfl rfl (all_mapE (fun _ => rfl)) (by first | rfl | (simp only [List.length_map, len_set, len_cpy]; done) | (rw [List.length_map]; exact Eq.symm (arr_len h_2)))) FCv.nil) (HCv.dead HCv.nil)) (zG []))
set_option maxRecDepth 20000 in
set_option maxHeartbeats 1000000 in
theorem sha_Tagged_ok (N : Nat) (tag : ByteArray) (b : List Int) (r : (List Int)) (hr : sha_Tagged N tag b = some r) :
    Vm.Fn Tryd.prog 15 [] [(eS tag), (.row none 1 (b.map (eI .u8)))] (.agg (r.map (eI .u8))) [] := by
  refine fn_ab Tryd.func15 rfl (by kernel_rfl) Tryd.ntmps15 zl rfl (fr := [(0, (eS tag)), (1, (.row none 1 (b.map (eI .u8))))]) rfl ?_
  unfold sha_Tagged at hr
  refine zq <| wS (v := (.ptr 0 0)) (h' := [some ⟨33, (List.replicate 32 0).map (eI .u8)⟩]) (sv (d_alloc ti33 rfl rfl rfl)) <| zn <| AB.seq ?_
  replace hr := bnd hr; obtain ⟨x7, h_1, hr⟩ := hr
  replace hr := bnd hr; obtain ⟨x8, h_2, hr⟩ := hr
  replace hr := bnd hr; obtain ⟨q, h_3, hr⟩ := hr
  refine AB.rw <| zm rfl <| wStr (h' := [some ⟨33, (List.replicate 32 0).map (eI .u8)⟩, some ⟨5, x7.map (eI .u8)⟩]) rfl ti9 ti27 ti5 h_1 rfl rfl <| wC (v := (.agg (x8.map (eI .u8)))) (h' := [some ⟨33, (List.replicate 32 0).map (eI .u8)⟩, some ⟨5, x7.map (eI .u8)⟩]) rfl (zL (sha_Sum_ok N x7 x8 h_2) [] [1]) <| wS (v := (.ptr 2 0)) (h' := [some ⟨33, (List.replicate 32 0).map (eI .u8)⟩, some ⟨5, x7.map (eI .u8)⟩, some ⟨33, (List.replicate 32 0).map (eI .u8)⟩]) (sv (d_alloc ti33 rfl rfl rfl)) ?_
  refine wN (h' := [some ⟨33, (List.replicate 32 0).map (eI .u8)⟩, some ⟨5, x7.map (eI .u8)⟩, some ⟨33, x8.map (eI .u8)⟩]) (sv (d_store rfl rfl (stA (E := (eI .u8)) (l := List.replicate 32 0) ti33 rfl rfl (fun _ => rfl) rfl (arr_len h_3) rfl))) <| zn <| AB.seq ?_
  replace hr := bnd hr; obtain ⟨x13, h_4, hr⟩ := hr
  replace hr := bnd hr; obtain ⟨x14, h_6, hr⟩ := hr
  replace hr := bnd hr; obtain ⟨q_1, h_8, hr⟩ := hr
  refine AB.rd (memF [32]) (memF [33]) mixed <| DrawG.pick (n := 6) (i := 0) (by decide +kernel) rfl (gS (v := (.sl 2 0 32 1 false)) (sv (d_slice rfl rfl rfl (slA (E := (eI .u8)) (l := x8) ti33 ti5 rfl rfl rfl (arr_len h_3) ⟨zl, zl⟩)))) <| DrawG.pick (n := 5) (i := 1) (by decide +kernel) rfl (gS (v := (.sl 2 0 32 1 false)) (sv (d_slice rfl rfl rfl (slA (E := (eI .u8)) (l := x8) ti33 ti5 rfl rfl rfl (arr_len h_3) ⟨zl, zl⟩)))) <| DrawG.pick (n := 4) (i := 2) (by decide +kernel) rfl (gS (v := (.row none 1 (b.map (eI .u8)))) (sv (d_move rfl))) ?_
  refine DrawG.gh (n := 3) (by decide +kernel) (Ghost.conv (fr' := [(0, (eS tag)), (1, (.row none 1 (b.map (eI .u8)))), (4, (.ptr 0 0)), (5, (.ptr 2 0)), (6, (eS tag)), (7, (.sl 1 0 x7.length 1 false)), (8, (.agg (x8.map (eI .u8)))), (9, (.row none 1 (x8.map (eI .u8)))), (10, (.row none 1 (x8.map (eI .u8)))), (11, (.row none 1 (b.map (eI .u8))))]) (h' := [some ⟨33, (List.replicate 32 0).map (eI .u8)⟩, some ⟨5, x7.map (eI .u8)⟩, none]) (FCv.cons rfl (Conv.same (subB_sub rfl)) (FCv.cons rfl (Conv.same (subB_sub rfl)) (FCv.cons rfl (Conv.same (subB_sub rfl)) (FCv.cons rfl (Conv.same (subB_sub rfl)) (FCv.cons rfl (Conv.same (subB_sub rfl)) (FCv.cons rfl (Conv.same (subB_sub rfl)) (FCv.cons rfl (Conv.same (subB_sub rfl)) (FCv.cons rfl (Conv.row (subB_sub rfl) rfl rfl (all_mapE (fun _ => rfl)) (by first | rfl | (simp only [List.length_map, len_set, len_cpy]; done) | (rw [List.length_map]; exact Eq.symm (arr_len h_3)))) (FCv.cons rfl (Conv.row (subB_sub rfl) rfl rfl (all_mapE (fun _ => rfl)) (by first | rfl | (simp only [List.length_map, len_set, len_cpy]; done) | (rw [List.length_map]; exact Eq.symm (arr_len h_3)))) (FCv.cons rfl (Conv.same (subB_sub rfl)) FCv.nil)))))))))) (HCv.live (Convs.same (subB_sub rfl)) (all_map (fun _ => rfl) _) (HCv.live (Convs.same (subB_sub rfl)) (all_map (fun _ => rfl) _) (HCv.dead HCv.nil)))) ?_
  refine DrawG.pick (n := 3) (i := 3) (by decide +kernel) rfl (gS (v := (.sl 3 0 3 1 false)) (h' := [some ⟨33, (List.replicate 32 0).map (eI .u8)⟩, some ⟨5, x7.map (eI .u8)⟩, none, some ⟨27, [x8, x8, b].map (eL 1 (eI .u8))⟩]) (sv (d_buildS rfl (bldL1 (xs := [x8, x8, b].map (eL 1 (eI .u8))) ti40 ti27 zl zl rfl rfl rfl rfl rfl rfl rfl)))) ?_
  refine DrawG.pick (n := 2) (i := 4) (by decide +kernel) rfl (gC (v := (.sl 4 0 x13.length 1 false)) (h' := [some ⟨33, (List.replicate 32 0).map (eI .u8)⟩, some ⟨5, x7.map (eI .u8)⟩, none, some ⟨27, [x8, x8, b].map (eL 1 (eI .u8))⟩, some ⟨5, x13.map (eI .u8)⟩]) (zL (sha_row_ok N [x8, x8, b] x13 h_4) [] [3]) (fun h => absurd h (by decide)) (fun _ => ⟨_, rfl⟩) (sv (d_call rfl orc1_hit))) ?_
  refine DrawG.pick (n := 1) (i := 5) (by decide +kernel) rfl (gC (v := (.agg (x14.map (eI .u8)))) (h' := [some ⟨33, (List.replicate 32 0).map (eI .u8)⟩, some ⟨5, x7.map (eI .u8)⟩, none, some ⟨27, [x8, x8, b].map (eL 1 (eI .u8))⟩, some ⟨5, x13.map (eI .u8)⟩]) (zL (sha_Sum_ok N x13 x14 h_6) [] [4]) (fun _ => rfl) (fun h => absurd h (by decide)) (sv (d_call rfl orc1_hit))) ?_
  refine DrawG.pick (n := 0) (i := 6) (by decide +kernel) rfl (gN (h' := [some ⟨33, x14.map (eI .u8)⟩, some ⟨5, x7.map (eI .u8)⟩, none, some ⟨27, [x8, x8, b].map (eL 1 (eI .u8))⟩, some ⟨5, x13.map (eI .u8)⟩]) (sv (d_store rfl rfl (stA (E := (eI .u8)) (l := List.replicate 32 0) ti33 rfl rfl (fun _ => rfl) rfl (arr_len h_8) rfl)))) <| DrawG.nil (by decide +kernel) <| Ex.then_mk <| AB.ret ?_
  obtain rfl := Option.some.inj hr
  exact done_ret (r1 := (.agg (x14.map (eI .u8)))) (res1 Tryd.results15 (rvC rfl (ldA (E := (eI .u8)) (l := x14) ti33 rfl rfl (arr_len h_8)))) (zG [])
set_option maxRecDepth 20000 in
set_option maxHeartbeats 1000000 in
theorem spend_Message_ok (N : Nat) (t_Version : Int) (t_Inputs : List S_api_Input) (t_Outputs : List S_api_Output) (t_Lock : Int) (vi : Int) (o_Value : Int) (o_Script : List Int) (r : (List Int) × Int) (hr : spend_Message N t_Version t_Inputs t_Outputs t_Lock vi o_Value o_Script = some r) :
    Vm.Fn Tryd.prog 7 [] [(.agg [(eI .u32 t_Version), (.row none 35 (t_Inputs.map E_api_Input)), (.row none 2 (t_Outputs.map E_api_Output)), (eI .u32 t_Lock)]), (eI .i64 vi), (.agg [(eI .i64 o_Value), (.row none 1 (o_Script.map (eI .u8)))])] (.tup [(.agg (r.1.map (eI .u8))), (eI .i64 r.2)]) [] := by
  refine fn_ab Tryd.func7 rfl (by kernel_rfl) Tryd.ntmps7 zl rfl (fr := [(0, (.agg [(eI .u32 t_Version), (.row none 35 (t_Inputs.map E_api_Input)), (.row none 2 (t_Outputs.map E_api_Output)), (eI .u32 t_Lock)])), (1, (eI .i64 vi)), (2, (.agg [(eI .i64 o_Value), (.row none 1 (o_Script.map (eI .u8)))]))]) rfl ?_
  unfold spend_Message at hr
  refine zq <| wS (v := (.ptr 0 0)) (h' := [some ⟨26, [(eI .u32 t_Version), (.row none 35 (t_Inputs.map E_api_Input)), (.row none 2 (t_Outputs.map E_api_Output)), (eI .u32 t_Lock)]⟩]) (sv (d_box rfl rfl rfl rfl)) <| wS (v := (.ptr 1 0)) (h' := [some ⟨26, [(eI .u32 t_Version), (.row none 35 (t_Inputs.map E_api_Input)), (.row none 2 (t_Outputs.map E_api_Output)), (eI .u32 t_Lock)]⟩, some ⟨29, [(eI .i64 o_Value), (.row none 1 (o_Script.map (eI .u8)))]⟩]) (sv (d_box rfl rfl rfl rfl)) ?_
  refine wS (v := (.ptr 2 0)) (h' := [some ⟨26, [(eI .u32 t_Version), (.row none 35 (t_Inputs.map E_api_Input)), (.row none 2 (t_Outputs.map E_api_Output)), (eI .u32 t_Lock)]⟩, some ⟨29, [(eI .i64 o_Value), (.row none 1 (o_Script.map (eI .u8)))]⟩, some ⟨33, (List.replicate 32 0).map (eI .u8)⟩]) (sv (d_alloc ti33 rfl rfl rfl)) <| wS (v := (eI .i64 0)) (sv (d_assign rfl)) <| zn <| AB.seq ?_
  refine AB.seq_g fun K1 hK1 hG1 => ?_
  have J1 : ∀ (x28 : Bool), spend_Message_J1 N t_Version t_Inputs t_Outputs t_Lock vi o_Value o_Script x28 = some r → K1 (mkF 90 [(1, (eI .i64 vi)), (3, (.ptr 0 0)), (5, (.ptr 1 0)), (6, (.ptr 2 0)), (28, (eB x28))]) [some ⟨26, [(eI .u32 t_Version), (.row none 35 (t_Inputs.map E_api_Input)), (.row none 2 (t_Outputs.map E_api_Output)), (eI .u32 t_Lock)]⟩, some ⟨29, [(eI .i64 o_Value), (.row none 1 (o_Script.map (eI .u8)))]⟩, some ⟨33, (List.replicate 32 0).map (eI .u8)⟩] := by
    intro x28 hr
    unfold spend_Message_J1 at hr
    refine hK1 _ _ ?_
    refine AB.cnd rfl (fun h1 => ?_) (fun h1 => ?_)
    · replace hr := iteT hr h1
      refine zq <| wS (v := (.agg ([0, 0, 0, 0, 0, 0, 0, 0, 0, 0, 0, 0, 0, 0, 0, 0, 0, 0, 0, 0, 0, 0, 0, 0, 0, 0, 0, 0, 0, 0, 0, 0].map (eI .u8)))) (sv (d_build rfl (bldA ti33 ti5 rfl))) ?_
      refine wN (h' := [some ⟨26, [(eI .u32 t_Version), (.row none 35 (t_Inputs.map E_api_Input)), (.row none 2 (t_Outputs.map E_api_Output)), (eI .u32 t_Lock)]⟩, some ⟨29, [(eI .i64 o_Value), (.row none 1 (o_Script.map (eI .u8)))]⟩, some ⟨33, [0, 0, 0, 0, 0, 0, 0, 0, 0, 0, 0, 0, 0, 0, 0, 0, 0, 0, 0, 0, 0, 0, 0, 0, 0, 0, 0, 0, 0, 0, 0, 0].map (eI .u8)⟩]) (sv (d_store rfl rfl (stA (E := (eI .u8)) (l := List.replicate 32 0) ti33 rfl rfl (fun _ => rfl) rfl rfl rfl))) <| wS (v := (eI .i64 4)) (sv (d_assign rfl)) <| zn <| AB.ret <| Ex.then_ret_mk ?_
      obtain rfl := Option.some.inj hr
      exact done_ret (r1 := (.tup [(.agg ([0, 0, 0, 0, 0, 0, 0, 0, 0, 0, 0, 0, 0, 0, 0, 0, 0, 0, 0, 0, 0, 0, 0, 0, 0, 0, 0, 0, 0, 0, 0, 0].map (eI .u8))), (eI .i64 4)])) (res2 Tryd.results7 (rvC rfl (ldA (E := (eI .u8)) (l := [0, 0, 0, 0, 0, 0, 0, 0, 0, 0, 0, 0, 0, 0, 0, 0, 0, 0, 0, 0, 0, 0, 0, 0, 0, 0, 0, 0, 0, 0, 0, 0]) ti33 rfl rfl rfl)) (rvT rfl)) (Ghost.rn [] rfl rfl (FLe.le rfl (V.le_tup (V.les_cons (V.le_arr (fun _ => rfl)) (V.les_cons (V.le_refl _ _) V.les_nil))) FLe.nil) HLe.nil rfl)
    · replace hr := iteF hr h1
      refine AB.skip <| Ex.then_mk <| AB.seq ?_
      refine AB.seq_g fun K2 hK2 hG2 => ?_
      have J2 : ∀ (x38 : Bool), spend_Message_J2 N t_Version t_Inputs t_Outputs t_Lock vi o_Value o_Script x38 = some r → K2 (mkF 90 [(1, (eI .i64 vi)), (3, (.ptr 0 0)), (5, (.ptr 1 0)), (6, (.ptr 2 0)), (38, (eB x38))]) [some ⟨26, [(eI .u32 t_Version), (.row none 35 (t_Inputs.map E_api_Input)), (.row none 2 (t_Outputs.map E_api_Output)), (eI .u32 t_Lock)]⟩, some ⟨29, [(eI .i64 o_Value), (.row none 1 (o_Script.map (eI .u8)))]⟩, some ⟨33, (List.replicate 32 0).map (eI .u8)⟩] := by
        intro x38 hr
        unfold spend_Message_J2 at hr
        refine hK2 _ _ ?_
        refine AB.cnd rfl (fun h2 => ?_) (fun h2 => ?_)
        · replace hr := iteT hr h2
          refine zq <| wS (v := (.agg ([0, 0, 0, 0, 0, 0, 0, 0, 0, 0, 0, 0, 0, 0, 0, 0, 0, 0, 0, 0, 0, 0, 0, 0, 0, 0, 0, 0, 0, 0, 0, 0].map (eI .u8)))) (sv (d_build rfl (bldA ti33 ti5 rfl))) ?_
          refine wN (h' := [some ⟨26, [(eI .u32 t_Version), (.row none 35 (t_Inputs.map E_api_Input)), (.row none 2 (t_Outputs.map E_api_Output)), (eI .u32 t_Lock)]⟩, some ⟨29, [(eI .i64 o_Value), (.row none 1 (o_Script.map (eI .u8)))]⟩, some ⟨33, [0, 0, 0, 0, 0, 0, 0, 0, 0, 0, 0, 0, 0, 0, 0, 0, 0, 0, 0, 0, 0, 0, 0, 0, 0, 0, 0, 0, 0, 0, 0, 0].map (eI .u8)⟩]) (sv (d_store rfl rfl (stA (E := (eI .u8)) (l := List.replicate 32 0) ti33 rfl rfl (fun _ => rfl) rfl rfl rfl))) <| wS (v := (eI .i64 5)) (sv (d_assign rfl)) <| zn <| AB.ret <| Ex.then_ret_mk ?_
          obtain rfl := Option.some.inj hr
          exact done_ret (r1 := (.tup [(.agg ([0, 0, 0, 0, 0, 0, 0, 0, 0, 0, 0, 0, 0, 0, 0, 0, 0, 0, 0, 0, 0, 0, 0, 0, 0, 0, 0, 0, 0, 0, 0, 0].map (eI .u8))), (eI .i64 5)])) (res2 Tryd.results7 (rvC rfl (ldA (E := (eI .u8)) (l := [0, 0, 0, 0, 0, 0, 0, 0, 0, 0, 0, 0, 0, 0, 0, 0, 0, 0, 0, 0, 0, 0, 0, 0, 0, 0, 0, 0, 0, 0, 0, 0]) ti33 rfl rfl rfl)) (rvT rfl)) (Ghost.rn [] rfl rfl (FLe.le rfl (V.le_tup (V.les_cons (V.le_arr (fun _ => rfl)) (V.les_cons (V.le_refl _ _) V.les_nil))) FLe.nil) HLe.nil rfl)
        · replace hr := iteF hr h2
          refine AB.skip <| Ex.then_mk <| zq <| wS (v := (.row (some true) 1 [])) (sv (d_assign rfl)) <| wS (v := (.row (some true) 1 [])) (sv (d_assign rfl)) <| wS (v := (.row (some true) 1 [])) (sv (d_assign rfl)) <| zn ?_
          refine AB.seq_g fun K3 hK3 hG3 => ?_
          have J3 : ∀ (l3 : List Int) (l4 : List Int), spend_Message_J3 N t_Version t_Inputs t_Outputs t_Lock vi o_Value o_Script l3 l4 = some r → K3 (mkF 90 [(1, (eI .i64 vi)), (3, (.ptr 0 0)), (5, (.ptr 1 0)), (6, (.ptr 2 0)), (8, (.sl 3 0 l3.length 1 false)), (9, (.sl 4 0 l4.length 1 false)), (10, (.row (some true) 1 []))]) [some ⟨26, [(eI .u32 t_Version), (.row none 35 (t_Inputs.map E_api_Input)), (.row none 2 (t_Outputs.map E_api_Output)), (eI .u32 t_Lock)]⟩, some ⟨29, [(eI .i64 o_Value), (.row none 1 (o_Script.map (eI .u8)))]⟩, some ⟨33, (List.replicate 32 0).map (eI .u8)⟩, some ⟨5, l3.map (eI .u8)⟩, some ⟨5, l4.map (eI .u8)⟩] := by
            intro l3 l4 hr
            unfold spend_Message_J3 at hr
            refine hK3 _ _ ?_
            refine AB.seq_g fun K4 hK4 hG4 => ?_
            have J4 : ∀ (l5 : List Int), spend_Message_J4 N t_Version t_Inputs t_Outputs t_Lock vi o_Value o_Script l3 l4 l5 = some r → K4 (mkF 90 [(1, (eI .i64 vi)), (3, (.ptr 0 0)), (5, (.ptr 1 0)), (6, (.ptr 2 0)), (8, (.sl 3 0 l3.length 1 false)), (9, (.sl 4 0 l4.length 1 false)), (10, (.sl 5 0 l5.length 1 false))]) [some ⟨26, [(eI .u32 t_Version), (.row none 35 (t_Inputs.map E_api_Input)), (.row none 2 (t_Outputs.map E_api_Output)), (eI .u32 t_Lock)]⟩, some ⟨29, [(eI .i64 o_Value), (.row none 1 (o_Script.map (eI .u8)))]⟩, some ⟨33, (List.replicate 32 0).map (eI .u8)⟩, some ⟨5, l3.map (eI .u8)⟩, some ⟨5, l4.map (eI .u8)⟩, some ⟨5, l5.map (eI .u8)⟩] := by
              intro l5 hr
              unfold spend_Message_J4 at hr
              refine hK4 _ _ <| AB.seq ?_
              refine AB.ghost (Ghost.conv (fr' := [(1, (eI .i64 vi)), (3, (.ptr 0 0)), (5, (.ptr 1 0)), (6, (.ptr 2 0)), (8, (.row none 1 (l3.map (eI .u8)))), (9, (.sl 4 0 l4.length 1 false)), (10, (.sl 5 0 l5.length 1 false))]) (h' := [some ⟨26, [(eI .u32 t_Version), (.row none 35 (t_Inputs.map E_api_Input)), (.row none 2 (t_Outputs.map E_api_Output)), (eI .u32 t_Lock)]⟩, some ⟨29, [(eI .i64 o_Value), (.row none 1 (o_Script.map (eI .u8)))]⟩, some ⟨33, (List.replicate 32 0).map (eI .u8)⟩, none, some ⟨5, l4.map (eI .u8)⟩, some ⟨5, l5.map (eI .u8)⟩]) (FCv.cons rfl (Conv.same (subB_sub rfl)) (FCv.cons rfl (Conv.same (subB_sub rfl)) (FCv.cons rfl (Conv.same (subB_sub rfl)) (FCv.cons rfl (Conv.same (subB_sub rfl)) (FCv.cons rfl (Conv.row (subB_sub rfl) rfl rfl (all_mapE (fun _ => rfl)) (by first | rfl | (simp only [List.length_map, len_set, len_cpy]; done))) (FCv.cons rfl (Conv.same (subB_sub rfl)) (FCv.cons rfl (Conv.same (subB_sub rfl)) FCv.nil))))))) (HCv.live (Convs.same (subB_sub rfl)) rfl (HCv.live (Convs.same (subB_sub rfl)) rfl (HCv.live (Convs.same (subB_sub rfl)) (all_map (fun _ => rfl) _) (HCv.dead (HCv.live (Convs.same (subB_sub rfl)) (all_map (fun _ => rfl) _) (HCv.live (Convs.same (subB_sub rfl)) (all_map (fun _ => rfl) _) HCv.nil))))))) ?_
              refine AB.ghost (Ghost.conv (fr' := [(1, (eI .i64 vi)), (3, (.ptr 0 0)), (5, (.ptr 1 0)), (6, (.ptr 2 0)), (8, (.row none 1 (l3.map (eI .u8)))), (9, (.row none 1 (l4.map (eI .u8)))), (10, (.sl 5 0 l5.length 1 false))]) (h' := [some ⟨26, [(eI .u32 t_Version), (.row none 35 (t_Inputs.map E_api_Input)), (.row none 2 (t_Outputs.map E_api_Output)), (eI .u32 t_Lock)]⟩, some ⟨29, [(eI .i64 o_Value), (.row none 1 (o_Script.map (eI .u8)))]⟩, some ⟨33, (List.replicate 32 0).map (eI .u8)⟩, none, none, some ⟨5, l5.map (eI .u8)⟩]) (FCv.cons rfl (Conv.same (subB_sub rfl)) (FCv.cons rfl (Conv.same (subB_sub rfl)) (FCv.cons rfl (Conv.same (subB_sub rfl)) (FCv.cons rfl (Conv.same (subB_sub rfl)) (FCv.cons rfl (Conv.same (subB_sub rfl)) (FCv.cons rfl (Conv.row (subB_sub rfl) rfl rfl (all_mapE (fun _ => rfl)) (by first | rfl | (simp only [List.length_map, len_set, len_cpy]; done))) (FCv.cons rfl (Conv.same (subB_sub rfl)) FCv.nil))))))) (HCv.live (Convs.same (subB_sub rfl)) rfl (HCv.live (Convs.same (subB_sub rfl)) rfl (HCv.live (Convs.same (subB_sub rfl)) (all_map (fun _ => rfl) _) (HCv.dead (HCv.dead (HCv.live (Convs.same (subB_sub rfl)) (all_map (fun _ => rfl) _) HCv.nil))))))) ?_
              refine AB.ghost (Ghost.conv (fr' := [(1, (eI .i64 vi)), (3, (.ptr 0 0)), (5, (.ptr 1 0)), (6, (.ptr 2 0)), (8, (.row none 1 (l3.map (eI .u8)))), (9, (.row none 1 (l4.map (eI .u8)))), (10, (.row none 1 (l5.map (eI .u8))))]) (h' := [some ⟨26, [(eI .u32 t_Version), (.row none 35 (t_Inputs.map E_api_Input)), (.row none 2 (t_Outputs.map E_api_Output)), (eI .u32 t_Lock)]⟩, some ⟨29, [(eI .i64 o_Value), (.row none 1 (o_Script.map (eI .u8)))]⟩, some ⟨33, (List.replicate 32 0).map (eI .u8)⟩, none, none, none]) (FCv.cons rfl (Conv.same (subB_sub rfl)) (FCv.cons rfl (Conv.same (subB_sub rfl)) (FCv.cons rfl (Conv.same (subB_sub rfl)) (FCv.cons rfl (Conv.same (subB_sub rfl)) (FCv.cons rfl (Conv.same (subB_sub rfl)) (FCv.cons rfl (Conv.same (subB_sub rfl)) (FCv.cons rfl (Conv.row (subB_sub rfl) rfl rfl (all_mapE (fun _ => rfl)) (by first | rfl | (simp only [List.length_map, len_set, len_cpy]; done))) FCv.nil))))))) (HCv.live (Convs.same (subB_sub rfl)) rfl (HCv.live (Convs.same (subB_sub rfl)) rfl (HCv.live (Convs.same (subB_sub rfl)) (all_map (fun _ => rfl) _) (HCv.dead (HCv.dead (HCv.dead HCv.nil))))))) ?_
              replace hr := bnd hr; obtain ⟨x72, h_3, hr⟩ := hr
              replace hr := bnd hr; obtain ⟨x74, h_5, hr⟩ := hr
              replace hr := bnd hr; obtain ⟨x76, h_7, hr⟩ := hr
              replace hr := bnd hr; obtain ⟨x78, h_9, hr⟩ := hr
              replace hr := bnd hr; obtain ⟨x81, h_11, hr⟩ := hr
              replace hr := bnd hr; obtain ⟨x84, h_13, hr⟩ := hr
              replace hr := bnd hr; obtain ⟨x86, h_15, hr⟩ := hr
              replace hr := bnd hr; obtain ⟨x88, h_17, hr⟩ := hr
              replace hr := bnd hr; obtain ⟨x89, h_19, hr⟩ := hr
              replace hr := bnd hr; obtain ⟨q, h_21, hr⟩ := hr
              refine AB.rd (memF [15, 17]) (memF [13, 14, 16]) mixed <| DrawG.pick (n := 21) (i := 0) (by decide +kernel) rfl (gS (v := (.ptr 0 0)) (sv (d_fa rfl (fap26_0 ..)))) <| DrawG.pick (n := 20) (i := 1) (by decide +kernel) rfl (gS (v := (eI .u32 t_Version)) (sv (d_load rfl (ldP rfl (part1 ti22 rfl rfl))))) ?_
              refine DrawG.pick (n := 19) (i := 2) (by decide +kernel) rfl (gC (v := (.sl 6 0 x72.length 1 false)) (h' := [some ⟨26, [(eI .u32 t_Version), (.row none 35 (t_Inputs.map E_api_Input)), (.row none 2 (t_Outputs.map E_api_Output)), (eI .u32 t_Lock)]⟩, some ⟨29, [(eI .i64 o_Value), (.row none 1 (o_Script.map (eI .u8)))]⟩, some ⟨33, (List.replicate 32 0).map (eI .u8)⟩, none, none, none, some ⟨5, x72.map (eI .u8)⟩]) (zB (spend_number_ok N t_Version x72 h_3) []) (fun h => absurd h (by decide)) (fun _ => ⟨_, rfl⟩) (sv (d_call rfl orc1_hit))) ?_
              refine DrawG.pick (n := 18) (i := 3) (by decide +kernel) rfl (gS (v := (.row none 1 (l3.map (eI .u8)))) (sv (d_move rfl))) ?_
              refine DrawG.pick (n := 17) (i := 4) (by decide +kernel) rfl (gC (v := (.row none 1 (x74.map (eI .u8)))) (h' := [some ⟨26, [(eI .u32 t_Version), (.row none 35 (t_Inputs.map E_api_Input)), (.row none 2 (t_Outputs.map E_api_Output)), (eI .u32 t_Lock)]⟩, some ⟨29, [(eI .i64 o_Value), (.row none 1 (o_Script.map (eI .u8)))]⟩, some ⟨33, (List.replicate 32 0).map (eI .u8)⟩, none, none, none, some ⟨5, x72.map (eI .u8)⟩]) (Vm.Fn.pure (spend_digest_ok N l3 x74 h_5) rfl rfl) (fun _ => rfl) (fun h => absurd h (by decide)) (sv (d_call rfl orc1_hit))) ?_
              refine DrawG.pick (n := 16) (i := 5) (by decide +kernel) rfl (gS (v := (.row none 1 (l4.map (eI .u8)))) (sv (d_move rfl))) ?_
              refine DrawG.pick (n := 15) (i := 6) (by decide +kernel) rfl (gC (v := (.row none 1 (x76.map (eI .u8)))) (h' := [some ⟨26, [(eI .u32 t_Version), (.row none 35 (t_Inputs.map E_api_Input)), (.row none 2 (t_Outputs.map E_api_Output)), (eI .u32 t_Lock)]⟩, some ⟨29, [(eI .i64 o_Value), (.row none 1 (o_Script.map (eI .u8)))]⟩, some ⟨33, (List.replicate 32 0).map (eI .u8)⟩, none, none, none, some ⟨5, x72.map (eI .u8)⟩]) (Vm.Fn.pure (spend_digest_ok N l4 x76 h_7) rfl rfl) (fun _ => rfl) (fun h => absurd h (by decide)) (sv (d_call rfl orc1_hit))) ?_
              refine DrawG.pick (n := 14) (i := 7) (by decide +kernel) rfl (gS (v := (.row none 1 (l5.map (eI .u8)))) (sv (d_move rfl))) ?_
              refine DrawG.pick (n := 13) (i := 8) (by decide +kernel) rfl (gC (v := (.row none 1 (x78.map (eI .u8)))) (h' := [some ⟨26, [(eI .u32 t_Version), (.row none 35 (t_Inputs.map E_api_Input)), (.row none 2 (t_Outputs.map E_api_Output)), (eI .u32 t_Lock)]⟩, some ⟨29, [(eI .i64 o_Value), (.row none 1 (o_Script.map (eI .u8)))]⟩, some ⟨33, (List.replicate 32 0).map (eI .u8)⟩, none, none, none, some ⟨5, x72.map (eI .u8)⟩]) (Vm.Fn.pure (spend_digest_ok N l5 x78 h_9) rfl rfl) (fun _ => rfl) (fun h => absurd h (by decide)) (sv (d_call rfl orc1_hit))) ?_
              refine DrawG.pick (n := 12) (i := 9) (by decide +kernel) rfl (gS (v := (.ptr 0 3)) (sv (d_fa rfl (fap26_3 ..)))) <| DrawG.pick (n := 11) (i := 10) (by decide +kernel) rfl (gS (v := (eI .u32 t_Lock)) (sv (d_load rfl (ldP rfl (part1 ti22 rfl rfl))))) ?_
              refine DrawG.pick (n := 10) (i := 11) (by decide +kernel) rfl (gC (v := (.sl 7 0 x81.length 1 false)) (h' := [some ⟨26, [(eI .u32 t_Version), (.row none 35 (t_Inputs.map E_api_Input)), (.row none 2 (t_Outputs.map E_api_Output)), (eI .u32 t_Lock)]⟩, some ⟨29, [(eI .i64 o_Value), (.row none 1 (o_Script.map (eI .u8)))]⟩, some ⟨33, (List.replicate 32 0).map (eI .u8)⟩, none, none, none, some ⟨5, x72.map (eI .u8)⟩, some ⟨5, x81.map (eI .u8)⟩]) (zB (spend_number_ok N t_Lock x81 h_11) []) (fun h => absurd h (by decide)) (fun _ => ⟨_, rfl⟩) (sv (d_call rfl orc1_hit))) ?_
              refine DrawG.pick (n := 9) (i := 12) (by decide +kernel) rfl (gS (v := (eI .i64 vi)) (sv (d_move rfl))) <| DrawG.pick (n := 8) (i := 13) (by decide +kernel) rfl (gS (v := (eI .u32 (IntKind.u32.wrap vi))) (sv (d_conv rfl (conv_int _ ⟨_, ti3⟩ ti22 rfl)))) ?_
              refine DrawG.pick (n := 7) (i := 14) (by decide +kernel) rfl (gC (v := (.sl 8 0 x84.length 1 false)) (h' := [some ⟨26, [(eI .u32 t_Version), (.row none 35 (t_Inputs.map E_api_Input)), (.row none 2 (t_Outputs.map E_api_Output)), (eI .u32 t_Lock)]⟩, some ⟨29, [(eI .i64 o_Value), (.row none 1 (o_Script.map (eI .u8)))]⟩, some ⟨33, (List.replicate 32 0).map (eI .u8)⟩, none, none, none, some ⟨5, x72.map (eI .u8)⟩, some ⟨5, x81.map (eI .u8)⟩, some ⟨5, x84.map (eI .u8)⟩]) (zB (spend_number_ok N (IntKind.u32.wrap vi) x84 h_13) []) (fun h => absurd h (by decide)) (fun _ => ⟨_, rfl⟩) (sv (d_call rfl orc1_hit))) ?_
              refine DrawG.pick (n := 6) (i := 15) (by decide +kernel) rfl (gS (v := (.agg [(eI .i64 o_Value), (.row none 1 (o_Script.map (eI .u8)))])) (sv (d_load rfl (ldP rfl (partN (ds := [(eI .i64 o_Value), (.row none 1 (o_Script.map (eI .u8)))]) ti29 rfl zl rfl))))) ?_
              refine DrawG.pick (n := 5) (i := 16) (by decide +kernel) rfl (gC (v := (.sl 9 0 x86.length 1 false)) (h' := [some ⟨26, [(eI .u32 t_Version), (.row none 35 (t_Inputs.map E_api_Input)), (.row none 2 (t_Outputs.map E_api_Output)), (eI .u32 t_Lock)]⟩, some ⟨29, [(eI .i64 o_Value), (.row none 1 (o_Script.map (eI .u8)))]⟩, some ⟨33, (List.replicate 32 0).map (eI .u8)⟩, none, none, none, some ⟨5, x72.map (eI .u8)⟩, some ⟨5, x81.map (eI .u8)⟩, some ⟨5, x84.map (eI .u8)⟩, some ⟨5, x86.map (eI .u8)⟩]) (zB (spend_output_ok N o_Value o_Script x86 h_15) []) (fun h => absurd h (by decide)) (fun _ => ⟨_, rfl⟩) (sv (d_call rfl orc1_hit))) ?_
              refine DrawG.gh (n := 4) (by decide +kernel) (Ghost.conv (fr' := [(1, (eI .i64 vi)), (3, (.ptr 0 0)), (5, (.ptr 1 0)), (6, (.ptr 2 0)), (8, (.row none 1 (l3.map (eI .u8)))), (9, (.row none 1 (l4.map (eI .u8)))), (10, (.row none 1 (l5.map (eI .u8)))), (70, (.ptr 0 0)), (71, (eI .u32 t_Version)), (72, (.row none 1 (x72.map (eI .u8)))), (73, (.row none 1 (l3.map (eI .u8)))), (74, (.row none 1 (x74.map (eI .u8)))), (75, (.row none 1 (l4.map (eI .u8)))), (76, (.row none 1 (x76.map (eI .u8)))), (77, (.row none 1 (l5.map (eI .u8)))), (78, (.row none 1 (x78.map (eI .u8)))), (79, (.ptr 0 3)), (80, (eI .u32 t_Lock)), (81, (.sl 7 0 x81.length 1 false)), (82, (eI .i64 vi)), (83, (eI .u32 (IntKind.u32.wrap vi))), (84, (.sl 8 0 x84.length 1 false)), (85, (.agg [(eI .i64 o_Value), (.row none 1 (o_Script.map (eI .u8)))])), (86, (.sl 9 0 x86.length 1 false))]) (h' := [some ⟨26, [(eI .u32 t_Version), (.row none 35 (t_Inputs.map E_api_Input)), (.row none 2 (t_Outputs.map E_api_Output)), (eI .u32 t_Lock)]⟩, some ⟨29, [(eI .i64 o_Value), (.row none 1 (o_Script.map (eI .u8)))]⟩, some ⟨33, (List.replicate 32 0).map (eI .u8)⟩, none, none, none, none, some ⟨5, x81.map (eI .u8)⟩, some ⟨5, x84.map (eI .u8)⟩, some ⟨5, x86.map (eI .u8)⟩]) (FCv.cons rfl (Conv.same (subB_sub rfl)) (FCv.cons rfl (Conv.same (subB_sub rfl)) (FCv.cons rfl (Conv.same (subB_sub rfl)) (FCv.cons rfl (Conv.same (subB_sub rfl)) (FCv.cons rfl (Conv.same (subB_sub rfl)) (FCv.cons rfl (Conv.same (subB_sub rfl)) (FCv.cons rfl (Conv.same (subB_sub rfl)) (FCv.cons rfl (Conv.same (subB_sub rfl)) (FCv.cons rfl (Conv.same (subB_sub rfl)) (FCv.cons rfl (Conv.row (subB_sub rfl) rfl rfl (all_mapE (fun _ => rfl)) (by first | rfl | (simp only [List.length_map, len_set, len_cpy]; done))) (FCv.cons rfl (Conv.same (subB_sub rfl)) (FCv.cons rfl (Conv.same (subB_sub rfl)) (FCv.cons rfl (Conv.same (subB_sub rfl)) (FCv.cons rfl (Conv.same (subB_sub rfl)) (FCv.cons rfl (Conv.same (subB_sub rfl)) (FCv.cons rfl (Conv.same (subB_sub rfl)) (FCv.cons rfl (Conv.same (subB_sub rfl)) (FCv.cons rfl (Conv.same (subB_sub rfl)) (FCv.cons rfl (Conv.same (subB_sub rfl)) (FCv.cons rfl (Conv.same (subB_sub rfl)) (FCv.cons rfl (Conv.same (subB_sub rfl)) (FCv.cons rfl (Conv.same (subB_sub rfl)) (FCv.cons rfl (Conv.same (subB_sub rfl)) (FCv.cons rfl (Conv.same (subB_sub rfl)) FCv.nil)))))))))))))))))))))))) (HCv.live (Convs.same (subB_sub rfl)) rfl (HCv.live (Convs.same (subB_sub rfl)) rfl (HCv.live (Convs.same (subB_sub rfl)) (all_map (fun _ => rfl) _) (HCv.dead (HCv.dead (HCv.dead (HCv.dead (HCv.live (Convs.same (subB_sub rfl)) (all_map (fun _ => rfl) _) (HCv.live (Convs.same (subB_sub rfl)) (all_map (fun _ => rfl) _) (HCv.live (Convs.same (subB_sub rfl)) (all_map (fun _ => rfl) _) HCv.nil))))))))))) ?_
              refine DrawG.gh (n := 4) (by decide +kernel) (Ghost.conv (fr' := [(1, (eI .i64 vi)), (3, (.ptr 0 0)), (5, (.ptr 1 0)), (6, (.ptr 2 0)), (8, (.row none 1 (l3.map (eI .u8)))), (9, (.row none 1 (l4.map (eI .u8)))), (10, (.row none 1 (l5.map (eI .u8)))), (70, (.ptr 0 0)), (71, (eI .u32 t_Version)), (72, (.row none 1 (x72.map (eI .u8)))), (73, (.row none 1 (l3.map (eI .u8)))), (74, (.row none 1 (x74.map (eI .u8)))), (75, (.row none 1 (l4.map (eI .u8)))), (76, (.row none 1 (x76.map (eI .u8)))), (77, (.row none 1 (l5.map (eI .u8)))), (78, (.row none 1 (x78.map (eI .u8)))), (79, (.ptr 0 3)), (80, (eI .u32 t_Lock)), (81, (.row none 1 (x81.map (eI .u8)))), (82, (eI .i64 vi)), (83, (eI .u32 (IntKind.u32.wrap vi))), (84, (.sl 8 0 x84.length 1 false)), (85, (.agg [(eI .i64 o_Value), (.row none 1 (o_Script.map (eI .u8)))])), (86, (.sl 9 0 x86.length 1 false))]) (h' := [some ⟨26, [(eI .u32 t_Version), (.row none 35 (t_Inputs.map E_api_Input)), (.row none 2 (t_Outputs.map E_api_Output)), (eI .u32 t_Lock)]⟩, some ⟨29, [(eI .i64 o_Value), (.row none 1 (o_Script.map (eI .u8)))]⟩, some ⟨33, (List.replicate 32 0).map (eI .u8)⟩, none, none, none, none, none, some ⟨5, x84.map (eI .u8)⟩, some ⟨5, x86.map (eI .u8)⟩]) (FCv.cons rfl (Conv.same (subB_sub rfl)) (FCv.cons rfl (Conv.same (subB_sub rfl)) (FCv.cons rfl (Conv.same (subB_sub rfl)) (FCv.cons rfl (Conv.same (subB_sub rfl)) (FCv.cons rfl (Conv.same (subB_sub rfl)) (FCv.cons rfl (Conv.same (subB_sub rfl)) (FCv.cons rfl (Conv.same (subB_sub rfl)) (FCv.cons rfl (Conv.same (subB_sub rfl)) (FCv.cons rfl (Conv.same (subB_sub rfl)) (FCv.cons rfl (Conv.same (subB_sub rfl)) (FCv.cons rfl (Conv.same (subB_sub rfl)) (FCv.cons rfl (Conv.same (subB_sub rfl)) (FCv.cons rfl (Conv.same (subB_sub rfl)) (FCv.cons rfl (Conv.same (subB_sub rfl)) (FCv.cons rfl (Conv.same (subB_sub rfl)) (FCv.cons rfl (Conv.same (subB_sub rfl)) (FCv.cons rfl (Conv.same (subB_sub rfl)) (FCv.cons rfl (Conv.same (subB_sub rfl)) (FCv.cons rfl (Conv.row (subB_sub rfl) rfl rfl (all_mapE (fun _ => rfl)) (by first | rfl | (simp only [List.length_map, len_set, len_cpy]; done))) (FCv.cons rfl (Conv.same (subB_sub rfl)) (FCv.cons rfl (Conv.same (subB_sub rfl)) (FCv.cons rfl (Conv.same (subB_sub rfl)) (FCv.cons rfl (Conv.same (subB_sub rfl)) (FCv.cons rfl (Conv.same (subB_sub rfl)) FCv.nil)))))))))))))))))))))))) (HCv.live (Convs.same (subB_sub rfl)) rfl (HCv.live (Convs.same (subB_sub rfl)) rfl (HCv.live (Convs.same (subB_sub rfl)) (all_map (fun _ => rfl) _) (HCv.dead (HCv.dead (HCv.dead (HCv.dead (HCv.dead (HCv.live (Convs.same (subB_sub rfl)) (all_map (fun _ => rfl) _) (HCv.live (Convs.same (subB_sub rfl)) (all_map (fun _ => rfl) _) HCv.nil))))))))))) ?_
              refine DrawG.gh (n := 4) (by decide +kernel) (Ghost.conv (fr' := [(1, (eI .i64 vi)), (3, (.ptr 0 0)), (5, (.ptr 1 0)), (6, (.ptr 2 0)), (8, (.row none 1 (l3.map (eI .u8)))), (9, (.row none 1 (l4.map (eI .u8)))), (10, (.row none 1 (l5.map (eI .u8)))), (70, (.ptr 0 0)), (71, (eI .u32 t_Version)), (72, (.row none 1 (x72.map (eI .u8)))), (73, (.row none 1 (l3.map (eI .u8)))), (74, (.row none 1 (x74.map (eI .u8)))), (75, (.row none 1 (l4.map (eI .u8)))), (76, (.row none 1 (x76.map (eI .u8)))), (77, (.row none 1 (l5.map (eI .u8)))), (78, (.row none 1 (x78.map (eI .u8)))), (79, (.ptr 0 3)), (80, (eI .u32 t_Lock)), (81, (.row none 1 (x81.map (eI .u8)))), (82, (eI .i64 vi)), (83, (eI .u32 (IntKind.u32.wrap vi))), (84, (.row none 1 (x84.map (eI .u8)))), (85, (.agg [(eI .i64 o_Value), (.row none 1 (o_Script.map (eI .u8)))])), (86, (.sl 9 0 x86.length 1 false))]) (h' := [some ⟨26, [(eI .u32 t_Version), (.row none 35 (t_Inputs.map E_api_Input)), (.row none 2 (t_Outputs.map E_api_Output)), (eI .u32 t_Lock)]⟩, some ⟨29, [(eI .i64 o_Value), (.row none 1 (o_Script.map (eI .u8)))]⟩, some ⟨33, (List.replicate 32 0).map (eI .u8)⟩, none, none, none, none, none, none, some ⟨5, x86.map (eI .u8)⟩]) (FCv.cons rfl (Conv.same (subB_sub rfl)) (FCv.cons rfl (Conv.same (subB_sub rfl)) (FCv.cons rfl (Conv.same (subB_sub rfl)) (FCv.cons rfl (Conv.same (subB_sub rfl)) (FCv.cons rfl (Conv.same (subB_sub rfl)) (FCv.cons rfl (Conv.same (subB_sub rfl)) (FCv.cons rfl (Conv.same (subB_sub rfl)) (FCv.cons rfl (Conv.same (subB_sub rfl)) (FCv.cons rfl (Conv.same (subB_sub rfl)) (FCv.cons rfl (Conv.same (subB_sub rfl)) (FCv.cons rfl (Conv.same (subB_sub rfl)) (FCv.cons rfl (Conv.same (subB_sub rfl)) (FCv.cons rfl (Conv.same (subB_sub rfl)) (FCv.cons rfl (Conv.same (subB_sub rfl)) (FCv.cons rfl (Conv.same (subB_sub rfl)) (FCv.cons rfl (Conv.same (subB_sub rfl)) (FCv.cons rfl (Conv.same (subB_sub rfl)) (FCv.cons rfl (Conv.same (subB_sub rfl)) (FCv.cons rfl (Conv.same (subB_sub rfl)) (FCv.cons rfl (Conv.same (subB_sub rfl)) (FCv.cons rfl (Conv.same (subB_sub rfl)) (FCv.cons rfl (Conv.row (subB_sub rfl) rfl rfl (all_mapE (fun _ => rfl)) (by first | rfl | (simp only [List.length_map, len_set, len_cpy]; done))) (FCv.cons rfl (Conv.same (subB_sub rfl)) (FCv.cons rfl (Conv.same (subB_sub rfl)) FCv.nil)))))))))))))))))))))))) (HCv.live (Convs.same (subB_sub rfl)) rfl (HCv.live (Convs.same (subB_sub rfl)) rfl (HCv.live (Convs.same (subB_sub rfl)) (all_map (fun _ => rfl) _) (HCv.dead (HCv.dead (HCv.dead (HCv.dead (HCv.dead (HCv.dead (HCv.live (Convs.same (subB_sub rfl)) (all_map (fun _ => rfl) _) HCv.nil))))))))))) ?_
              refine DrawG.gh (n := 4) (by decide +kernel) (Ghost.conv (fr' := [(1, (eI .i64 vi)), (3, (.ptr 0 0)), (5, (.ptr 1 0)), (6, (.ptr 2 0)), (8, (.row none 1 (l3.map (eI .u8)))), (9, (.row none 1 (l4.map (eI .u8)))), (10, (.row none 1 (l5.map (eI .u8)))), (70, (.ptr 0 0)), (71, (eI .u32 t_Version)), (72, (.row none 1 (x72.map (eI .u8)))), (73, (.row none 1 (l3.map (eI .u8)))), (74, (.row none 1 (x74.map (eI .u8)))), (75, (.row none 1 (l4.map (eI .u8)))), (76, (.row none 1 (x76.map (eI .u8)))), (77, (.row none 1 (l5.map (eI .u8)))), (78, (.row none 1 (x78.map (eI .u8)))), (79, (.ptr 0 3)), (80, (eI .u32 t_Lock)), (81, (.row none 1 (x81.map (eI .u8)))), (82, (eI .i64 vi)), (83, (eI .u32 (IntKind.u32.wrap vi))), (84, (.row none 1 (x84.map (eI .u8)))), (85, (.agg [(eI .i64 o_Value), (.row none 1 (o_Script.map (eI .u8)))])), (86, (.row none 1 (x86.map (eI .u8))))]) (h' := [some ⟨26, [(eI .u32 t_Version), (.row none 35 (t_Inputs.map E_api_Input)), (.row none 2 (t_Outputs.map E_api_Output)), (eI .u32 t_Lock)]⟩, some ⟨29, [(eI .i64 o_Value), (.row none 1 (o_Script.map (eI .u8)))]⟩, some ⟨33, (List.replicate 32 0).map (eI .u8)⟩, none, none, none, none, none, none, none]) (FCv.cons rfl (Conv.same (subB_sub rfl)) (FCv.cons rfl (Conv.same (subB_sub rfl)) (FCv.cons rfl (Conv.same (subB_sub rfl)) (FCv.cons rfl (Conv.same (subB_sub rfl)) (FCv.cons rfl (Conv.same (subB_sub rfl)) (FCv.cons rfl (Conv.same (subB_sub rfl)) (FCv.cons rfl (Conv.same (subB_sub rfl)) (FCv.cons rfl (Conv.same (subB_sub rfl)) (FCv.cons rfl (Conv.same (subB_sub rfl)) (FCv.cons rfl (Conv.same (subB_sub rfl)) (FCv.cons rfl (Conv.same (subB_sub rfl)) (FCv.cons rfl (Conv.same (subB_sub rfl)) (FCv.cons rfl (Conv.same (subB_sub rfl)) (FCv.cons rfl (Conv.same (subB_sub rfl)) (FCv.cons rfl (Conv.same (subB_sub rfl)) (FCv.cons rfl (Conv.same (subB_sub rfl)) (FCv.cons rfl (Conv.same (subB_sub rfl)) (FCv.cons rfl (Conv.same (subB_sub rfl)) (FCv.cons rfl (Conv.same (subB_sub rfl)) (FCv.cons rfl (Conv.same (subB_sub rfl)) (FCv.cons rfl (Conv.same (subB_sub rfl)) (FCv.cons rfl (Conv.same (subB_sub rfl)) (FCv.cons rfl (Conv.same (subB_sub rfl)) (FCv.cons rfl (Conv.row (subB_sub rfl) rfl rfl (all_mapE (fun _ => rfl)) (by first | rfl | (simp only [List.length_map, len_set, len_cpy]; done))) FCv.nil)))))))))))))))))))))))) (HCv.live (Convs.same (subB_sub rfl)) rfl (HCv.live (Convs.same (subB_sub rfl)) rfl (HCv.live (Convs.same (subB_sub rfl)) (all_map (fun _ => rfl) _) (HCv.dead (HCv.dead (HCv.dead (HCv.dead (HCv.dead (HCv.dead (HCv.dead HCv.nil))))))))))) ?_
              refine DrawG.pick (n := 4) (i := 17) (by decide +kernel) rfl (gS (v := (.sl 10 0 7 1 false)) (h' := [some ⟨26, [(eI .u32 t_Version), (.row none 35 (t_Inputs.map E_api_Input)), (.row none 2 (t_Outputs.map E_api_Output)), (eI .u32 t_Lock)]⟩, some ⟨29, [(eI .i64 o_Value), (.row none 1 (o_Script.map (eI .u8)))]⟩, some ⟨33, (List.replicate 32 0).map (eI .u8)⟩, none, none, none, none, none, none, none, some ⟨27, [x72, x74, x76, x78, x81, x84, x86].map (eL 1 (eI .u8))⟩]) (sv (d_buildS rfl (bldL1 (xs := [x72, x74, x76, x78, x81, x84, x86].map (eL 1 (eI .u8))) ti40 ti27 zl zl rfl rfl rfl rfl rfl rfl rfl)))) ?_
              refine DrawG.pick (n := 3) (i := 18) (by decide +kernel) rfl (gC (v := (.sl 11 0 x88.length 1 false)) (h' := [some ⟨26, [(eI .u32 t_Version), (.row none 35 (t_Inputs.map E_api_Input)), (.row none 2 (t_Outputs.map E_api_Output)), (eI .u32 t_Lock)]⟩, some ⟨29, [(eI .i64 o_Value), (.row none 1 (o_Script.map (eI .u8)))]⟩, some ⟨33, (List.replicate 32 0).map (eI .u8)⟩, none, none, none, none, none, none, none, some ⟨27, [x72, x74, x76, x78, x81, x84, x86].map (eL 1 (eI .u8))⟩, some ⟨5, x88.map (eI .u8)⟩]) (zL (spend_row_ok N [x72, x74, x76, x78, x81, x84, x86] x88 h_17) [] [10]) (fun h => absurd h (by decide)) (fun _ => ⟨_, rfl⟩) (sv (d_call rfl orc1_hit))) ?_
              refine DrawG.pick (n := 2) (i := 19) (by decide +kernel) rfl (gC (v := (.agg (x89.map (eI .u8)))) (h' := [some ⟨26, [(eI .u32 t_Version), (.row none 35 (t_Inputs.map E_api_Input)), (.row none 2 (t_Outputs.map E_api_Output)), (eI .u32 t_Lock)]⟩, some ⟨29, [(eI .i64 o_Value), (.row none 1 (o_Script.map (eI .u8)))]⟩, some ⟨33, (List.replicate 32 0).map (eI .u8)⟩, none, none, none, none, none, none, none, some ⟨27, [x72, x74, x76, x78, x81, x84, x86].map (eL 1 (eI .u8))⟩, some ⟨5, x88.map (eI .u8)⟩]) (zL (sha_Tagged_ok N (⟨#[108, 105, 103, 104, 116, 99, 108, 105, 101, 110, 116, 47, 115, 112, 101, 110, 100]⟩) x88 x89 h_19) [] [11]) (fun _ => rfl) (fun h => absurd h (by decide)) (sv (d_call rfl orc1_hit))) ?_
              refine DrawG.pick (n := 1) (i := 20) (by decide +kernel) rfl (gN (h' := [some ⟨26, [(eI .u32 t_Version), (.row none 35 (t_Inputs.map E_api_Input)), (.row none 2 (t_Outputs.map E_api_Output)), (eI .u32 t_Lock)]⟩, some ⟨29, [(eI .i64 o_Value), (.row none 1 (o_Script.map (eI .u8)))]⟩, some ⟨33, x89.map (eI .u8)⟩, none, none, none, none, none, none, none, some ⟨27, [x72, x74, x76, x78, x81, x84, x86].map (eL 1 (eI .u8))⟩, some ⟨5, x88.map (eI .u8)⟩]) (sv (d_store rfl rfl (stA (E := (eI .u8)) (l := List.replicate 32 0) ti33 rfl rfl (fun _ => rfl) rfl (arr_len h_21) rfl)))) ?_
              refine DrawG.pick (n := 0) (i := 21) (by decide +kernel) rfl (gS (v := (eI .i64 0)) (sv (d_assign rfl))) <| DrawG.nil (by decide +kernel) <| Ex.then_mk <| AB.ret ?_
              obtain rfl := Option.some.inj hr
              exact done_ret (r1 := (.tup [(.agg (x89.map (eI .u8))), (eI .i64 0)])) (res2 Tryd.results7 (rvC rfl (ldA (E := (eI .u8)) (l := x89) ti33 rfl rfl (arr_len h_21))) (rvT rfl)) (Ghost.rn [] rfl rfl (FLe.le rfl (V.le_tup (V.les_cons (V.le_arr (fun _ => rfl)) (V.les_cons (V.le_refl _ _) V.les_nil))) FLe.nil) HLe.nil rfl)
            refine zq <| wS (v := (.ptr 0 2)) (sv (d_fa rfl (fap26_2 ..))) <| wS (v := (.row none 2 (t_Outputs.map E_api_Output))) (sv (d_load rfl (ldP rfl (part1 ti24 rfl rfl)))) <| wS (v := (eI .i64 (t_Outputs.length : Int))) (sv (d_len rfl (lenR ti24))) <| wS (v := (eI .i64 0)) (sv (d_move rfl)) <| zn ?_
            replace hr := bnd hr; obtain ⟨res5, hL5, hr⟩ := hr
            refine AB.block ?_
            refine AB.loopN (fun m s h => ∃ (x61 : Int) (l5_1 : List Int), spend_Message_L5 N t_Version t_Inputs t_Outputs t_Lock vi o_Value o_Script l3 l4 m x61 l5_1 = some res5 ∧ Ghost 0 s h (mkF 90 [(1, (eI .i64 vi)), (3, (.ptr 0 0)), (5, (.ptr 1 0)), (6, (.ptr 2 0)), (8, (.sl 3 0 l3.length 1 false)), (9, (.sl 4 0 l4.length 1 false)), (10, (.sl 5 0 l5_1.length 1 false)), (59, (.row none 2 (t_Outputs.map E_api_Output))), (60, (eI .i64 (t_Outputs.length : Int))), (61, (eI .i64 x61))]) [some ⟨26, [(eI .u32 t_Version), (.row none 35 (t_Inputs.map E_api_Input)), (.row none 2 (t_Outputs.map E_api_Output)), (eI .u32 t_Lock)]⟩, some ⟨29, [(eI .i64 o_Value), (.row none 1 (o_Script.map (eI .u8)))]⟩, some ⟨33, (List.replicate 32 0).map (eI .u8)⟩, some ⟨5, l3.map (eI .u8)⟩, some ⟨5, l4.map (eI .u8)⟩, some ⟨5, l5_1.map (eI .u8)⟩]) (n := N) ⟨0, [], hL5, (Ghost.trans (Ghost.virt (fr' := [(1, (eI .i64 vi)), (3, (.ptr 0 0)), (5, (.ptr 1 0)), (6, (.ptr 2 0)), (8, (.sl 3 0 l3.length 1 false)), (9, (.sl 4 0 l4.length 1 false)), (10, (.sl 5 0 0 1 false)), (59, (.row none 2 (t_Outputs.map E_api_Output))), (60, (eI .i64 (t_Outputs.length : Int))), (61, (eI .i64 0))]) (h1 := [some ⟨26, [(eI .u32 t_Version), (.row none 35 (t_Inputs.map E_api_Input)), (.row none 2 (t_Outputs.map E_api_Output)), (eI .u32 t_Lock)]⟩, some ⟨29, [(eI .i64 o_Value), (.row none 1 (o_Script.map (eI .u8)))]⟩, some ⟨33, (List.replicate 32 0).map (eI .u8)⟩, some ⟨5, l3.map (eI .u8)⟩, some ⟨5, l4.map (eI .u8)⟩]) 5 (FLe.same rfl (FLe.same rfl (FLe.same rfl (FLe.same rfl (FLe.same rfl (FLe.same rfl (FLe.le rfl (V.le_virt rfl) (FLe.same rfl (FLe.same rfl (FLe.same rfl FLe.nil)))))))))) (HLv.live (V.les_refl _ _) rfl (HLv.live (V.les_refl _ _) rfl (HLv.live (V.les_refl _ _) (all_map (fun _ => rfl) _) (HLv.live (V.les_refl _ _) (all_map (fun _ => rfl) _) (HLv.live (V.les_refl _ _) (all_map (fun _ => rfl) _) HLv.nil)))))) (Ghost.rn [0, 1, 2, 3, 4, 5] rfl rfl (FLe.same rfl (FLe.same rfl (FLe.same rfl (FLe.same rfl (FLe.same rfl (FLe.same rfl (FLe.le rfl (by first | exact V.le_refl _ _ | (simp only [len_set, len_cpy]; exact V.le_refl _ _)) (FLe.same rfl (FLe.same rfl (FLe.same rfl FLe.nil)))))))))) (HLe.live rfl (V.les_refl _ _) rfl (HLe.live rfl (V.les_refl _ _) rfl (HLe.live rfl (les_map (fun _ => rfl) _) (all_map (fun _ => rfl) _) (HLe.live rfl (les_map (fun _ => rfl) _) (all_map (fun _ => rfl) _) (HLe.live rfl (les_map (fun _ => rfl) _) (all_map (fun _ => rfl) _) (HLe.live rfl V.les_nil rfl HLe.nil)))))) rfl))⟩ (by rintro s h ⟨_, _, h0, _⟩; simp [spend_Message_L5] at h0) ?_
            rintro m5 s h ⟨x61, l5_1, hr5, hg⟩
            refine AB.ghost hg ?_
            clear hg hL5
            rw [spend_Message_L5] at hr5
            refine zq <| wS (sv (d_bin rfl rfl (bin_lss ..))) <| zn <| AB.seq ?_
            refine AB.cnd rfl (fun h22 => ?_) (fun h22 => ?_)
            · replace hr5 := iteT hr5 h22
              refine AB.skip <| Ex.then_mk <| AB.seq <| AB.block <| AB.seq ?_
              replace hr5 := bnd hr5; obtain ⟨x63, h_23, hr5⟩ := hr5
              refine AB.rw <| wS (sv (d_ia rfl rfl (iaR ti24 ti29 h_23))) <| wS (v := (.agg [(eI .i64 x63.Value), (.row none 1 (x63.Script.map (eI .u8)))])) (sv (d_load rfl (ldR h_23 (partN (ds := [(eI .i64 x63.Value), (.row none 1 (x63.Script.map (eI .u8)))]) ti29 rfl zl rfl)))) ?_
              refine wS (v := (.ptr 6 0)) (h' := [some ⟨26, [(eI .u32 t_Version), (.row none 35 (t_Inputs.map E_api_Input)), (.row none 2 (t_Outputs.map E_api_Output)), (eI .u32 t_Lock)]⟩, some ⟨29, [(eI .i64 o_Value), (.row none 1 (o_Script.map (eI .u8)))]⟩, some ⟨33, (List.replicate 32 0).map (eI .u8)⟩, some ⟨5, l3.map (eI .u8)⟩, some ⟨5, l4.map (eI .u8)⟩, some ⟨5, l5_1.map (eI .u8)⟩, some ⟨29, [(eI .i64 0), (.row (some true) 1 [])]⟩]) (sv (d_alloc ti29 rfl rfl rfl)) ?_
              refine wN (h' := [some ⟨26, [(eI .u32 t_Version), (.row none 35 (t_Inputs.map E_api_Input)), (.row none 2 (t_Outputs.map E_api_Output)), (eI .u32 t_Lock)]⟩, some ⟨29, [(eI .i64 o_Value), (.row none 1 (o_Script.map (eI .u8)))]⟩, some ⟨33, (List.replicate 32 0).map (eI .u8)⟩, some ⟨5, l3.map (eI .u8)⟩, some ⟨5, l4.map (eI .u8)⟩, some ⟨5, l5_1.map (eI .u8)⟩, some ⟨29, [(eI .i64 x63.Value), (.row none 1 (x63.Script.map (eI .u8)))]⟩]) (sv (d_store rfl rfl (stP ti29 rfl rfl rfl zl rfl))) <| zn ?_
              replace hr5 := bnd hr5; obtain ⟨x67, h_24, hr5⟩ := hr5
              replace hr5 := bnd hr5; obtain ⟨x68, h_25, hr5⟩ := hr5
              refine AB.rw <| zm rfl <| wS (v := (.agg [(eI .i64 x63.Value), (.row none 1 (x63.Script.map (eI .u8)))])) (sv (d_load rfl (ldP rfl (partN (ds := [(eI .i64 x63.Value), (.row none 1 (x63.Script.map (eI .u8)))]) ti29 rfl zl rfl)))) ?_
              refine wC (v := (.sl 7 0 x67.length 1 false)) (h' := [some ⟨26, [(eI .u32 t_Version), (.row none 35 (t_Inputs.map E_api_Input)), (.row none 2 (t_Outputs.map E_api_Output)), (eI .u32 t_Lock)]⟩, some ⟨29, [(eI .i64 o_Value), (.row none 1 (o_Script.map (eI .u8)))]⟩, some ⟨33, (List.replicate 32 0).map (eI .u8)⟩, some ⟨5, l3.map (eI .u8)⟩, some ⟨5, l4.map (eI .u8)⟩, some ⟨5, l5_1.map (eI .u8)⟩, some ⟨29, [(eI .i64 x63.Value), (.row none 1 (x63.Script.map (eI .u8)))]⟩, some ⟨5, x67.map (eI .u8)⟩]) rfl (zB (spend_output_ok N x63.Value x63.Script x67 h_24) []) ?_
              refine wS (v := (.sl 8 0 x68.length 1 false)) (h' := [some ⟨26, [(eI .u32 t_Version), (.row none 35 (t_Inputs.map E_api_Input)), (.row none 2 (t_Outputs.map E_api_Output)), (eI .u32 t_Lock)]⟩, some ⟨29, [(eI .i64 o_Value), (.row none 1 (o_Script.map (eI .u8)))]⟩, some ⟨33, (List.replicate 32 0).map (eI .u8)⟩, some ⟨5, l3.map (eI .u8)⟩, some ⟨5, l4.map (eI .u8)⟩, none, some ⟨29, [(eI .i64 x63.Value), (.row none 1 (x63.Script.map (eI .u8)))]⟩, some ⟨5, x67.map (eI .u8)⟩, some ⟨5, x68.map (eI .u8)⟩]) (sv (d_append rfl rfl (appS (E := (eI .u8)) rfl ti27 ti5 ⟨rfl, rfl, zl⟩ rfl (srcS rfl rfl) h_25 rfl rfl))) ?_
              refine za rfl <| OpsW.nil <| Ex.inBlock_mk <| Ex.then_mk <| AB.rw <| wS (v := (eI .i64 (IntKind.i64.wrap (x61 + 1)))) (sv (d_bin rfl rfl (bin_add ..))) <| zm rfl <| zn ?_
              exact ⟨IntKind.i64.wrap (x61 + 1), x68, hr5, (zG [0, 1, 2, 3, 4, 8])⟩
            · replace hr5 := iteF hr5 h22
              refine AB.exit <| Ex.then_exit_mk <| Ex.then_exit_mk <| Ex.inBlock_same_mk ?_
              obtain rfl := Option.some.inj hr5
              refine Ex.then_mk ?_
              exact hG4 _ _ _ _ (zG [0, 1, 2, 3, 4, 5]) (J4 l5_1 hr)
          refine zq <| wS (v := (.ptr 0 1)) (sv (d_fa rfl (fap26_1 ..))) <| wS (v := (.row none 35 (t_Inputs.map E_api_Input))) (sv (d_load rfl (ldP rfl (part1 ti23 rfl rfl)))) <| wS (v := (eI .i64 (t_Inputs.length : Int))) (sv (d_len rfl (lenR ti23))) <| wS (v := (eI .i64 0)) (sv (d_move rfl)) <| zn ?_
          replace hr := bnd hr; obtain ⟨res6, hL6, hr⟩ := hr
          refine AB.block ?_
          refine AB.loopN (fun m s h => ∃ (x43 : Int) (l3_1 : List Int) (l4_1 : List Int), spend_Message_L6 N t_Version t_Inputs t_Outputs t_Lock vi o_Value o_Script m x43 l3_1 l4_1 = some res6 ∧ Ghost 0 s h (mkF 90 [(1, (eI .i64 vi)), (3, (.ptr 0 0)), (5, (.ptr 1 0)), (6, (.ptr 2 0)), (8, (.sl 3 0 l3_1.length 1 false)), (9, (.sl 4 0 l4_1.length 1 false)), (10, (.row (some true) 1 [])), (41, (.row none 35 (t_Inputs.map E_api_Input))), (42, (eI .i64 (t_Inputs.length : Int))), (43, (eI .i64 x43))]) [some ⟨26, [(eI .u32 t_Version), (.row none 35 (t_Inputs.map E_api_Input)), (.row none 2 (t_Outputs.map E_api_Output)), (eI .u32 t_Lock)]⟩, some ⟨29, [(eI .i64 o_Value), (.row none 1 (o_Script.map (eI .u8)))]⟩, some ⟨33, (List.replicate 32 0).map (eI .u8)⟩, some ⟨5, l3_1.map (eI .u8)⟩, some ⟨5, l4_1.map (eI .u8)⟩]) (n := N) ⟨0, [], [], hL6, (Ghost.trans (Ghost.virt (fr' := [(1, (eI .i64 vi)), (3, (.ptr 0 0)), (5, (.ptr 1 0)), (6, (.ptr 2 0)), (8, (.sl 3 0 0 1 false)), (9, (.row (some true) 1 [])), (10, (.row (some true) 1 [])), (41, (.row none 35 (t_Inputs.map E_api_Input))), (42, (eI .i64 (t_Inputs.length : Int))), (43, (eI .i64 0))]) (h1 := [some ⟨26, [(eI .u32 t_Version), (.row none 35 (t_Inputs.map E_api_Input)), (.row none 2 (t_Outputs.map E_api_Output)), (eI .u32 t_Lock)]⟩, some ⟨29, [(eI .i64 o_Value), (.row none 1 (o_Script.map (eI .u8)))]⟩, some ⟨33, (List.replicate 32 0).map (eI .u8)⟩]) 5 (FLe.same rfl (FLe.same rfl (FLe.same rfl (FLe.same rfl (FLe.le rfl (V.le_virt rfl) (FLe.same rfl (FLe.same rfl (FLe.same rfl (FLe.same rfl (FLe.same rfl FLe.nil)))))))))) (HLv.live (V.les_refl _ _) rfl (HLv.live (V.les_refl _ _) rfl (HLv.live (V.les_refl _ _) (all_map (fun _ => rfl) _) HLv.nil)))) (Ghost.trans (Ghost.virt (fr' := [(1, (eI .i64 vi)), (3, (.ptr 0 0)), (5, (.ptr 1 0)), (6, (.ptr 2 0)), (8, (.sl 3 0 0 1 false)), (9, (.sl 4 0 0 1 false)), (10, (.row (some true) 1 [])), (41, (.row none 35 (t_Inputs.map E_api_Input))), (42, (eI .i64 (t_Inputs.length : Int))), (43, (eI .i64 0))]) (h1 := [some ⟨26, [(eI .u32 t_Version), (.row none 35 (t_Inputs.map E_api_Input)), (.row none 2 (t_Outputs.map E_api_Output)), (eI .u32 t_Lock)]⟩, some ⟨29, [(eI .i64 o_Value), (.row none 1 (o_Script.map (eI .u8)))]⟩, some ⟨33, (List.replicate 32 0).map (eI .u8)⟩, some ⟨5, [].map (eI .u8)⟩]) 5 (FLe.same rfl (FLe.same rfl (FLe.same rfl (FLe.same rfl (FLe.same rfl (FLe.le rfl (V.le_virt rfl) (FLe.same rfl (FLe.same rfl (FLe.same rfl (FLe.same rfl FLe.nil)))))))))) (HLv.live (V.les_refl _ _) rfl (HLv.live (V.les_refl _ _) rfl (HLv.live (V.les_refl _ _) (all_map (fun _ => rfl) _) (HLv.live (V.les_refl _ _) (all_map (fun _ => rfl) _) HLv.nil))))) (Ghost.rn [0, 1, 2, 3, 4] rfl rfl (FLe.same rfl (FLe.same rfl (FLe.same rfl (FLe.same rfl (FLe.le rfl (by first | exact V.le_refl _ _ | (simp only [len_set, len_cpy]; exact V.le_refl _ _)) (FLe.le rfl (by first | exact V.le_refl _ _ | (simp only [len_set, len_cpy]; exact V.le_refl _ _)) (FLe.same rfl (FLe.same rfl (FLe.same rfl (FLe.same rfl FLe.nil)))))))))) (HLe.live rfl (V.les_refl _ _) rfl (HLe.live rfl (V.les_refl _ _) rfl (HLe.live rfl (les_map (fun _ => rfl) _) (all_map (fun _ => rfl) _) (HLe.live rfl V.les_nil rfl (HLe.live rfl V.les_nil rfl HLe.nil))))) rfl)))⟩ (by rintro s h ⟨_, _, _, h0, _⟩; simp [spend_Message_L6] at h0) ?_
          rintro m6 s h ⟨x43, l3_1, l4_1, hr6, hg⟩
          refine AB.ghost hg ?_
          clear hg hL6
          rw [spend_Message_L6] at hr6
          refine zq <| wS (sv (d_bin rfl rfl (bin_lss ..))) <| zn <| AB.seq ?_
          refine AB.cnd rfl (fun h26 => ?_) (fun h26 => ?_)
          · replace hr6 := iteT hr6 h26
            refine AB.skip <| Ex.then_mk <| AB.seq <| AB.block <| AB.seq ?_
            replace hr6 := bnd hr6; obtain ⟨x45, h_27, hr6⟩ := hr6
            refine AB.rw <| wS (sv (d_ia rfl rfl (iaR ti23 ti42 h_27))) <| wS (v := (E_api_Input x45)) (sv (d_load rfl (ldR h_27 (partN (ds := (ar32 (eI .u8) x45.Prev.Tx [(eI .u32 x45.Prev.Index), (eI .u32 x45.Sequence), (.row none 1 (x45.Witness.map (eL 1 (eI .u8))))])) ti42 rfl zl rfl)))) ?_
            refine wS (v := (.ptr 5 0)) (h' := [some ⟨26, [(eI .u32 t_Version), (.row none 35 (t_Inputs.map E_api_Input)), (.row none 2 (t_Outputs.map E_api_Output)), (eI .u32 t_Lock)]⟩, some ⟨29, [(eI .i64 o_Value), (.row none 1 (o_Script.map (eI .u8)))]⟩, some ⟨33, (List.replicate 32 0).map (eI .u8)⟩, some ⟨5, l3_1.map (eI .u8)⟩, some ⟨5, l4_1.map (eI .u8)⟩, some ⟨42, (ar32 (eI .u8) (List.replicate 32 0) [(eI .u32 0), (eI .u32 0), (.row (some true) 1 [])])⟩]) (sv (d_alloc ti42 rfl rfl rfl)) ?_
            refine wN (h' := [some ⟨26, [(eI .u32 t_Version), (.row none 35 (t_Inputs.map E_api_Input)), (.row none 2 (t_Outputs.map E_api_Output)), (eI .u32 t_Lock)]⟩, some ⟨29, [(eI .i64 o_Value), (.row none 1 (o_Script.map (eI .u8)))]⟩, some ⟨33, (List.replicate 32 0).map (eI .u8)⟩, some ⟨5, l3_1.map (eI .u8)⟩, some ⟨5, l4_1.map (eI .u8)⟩, some ⟨42, C_api_Input x45⟩]) (sv (d_store rfl rfl (stP ti42 rfl rfl rfl zl rfl))) <| zn <| AB.seq ?_
            replace hr6 := bnd hr6; obtain ⟨x50, h_28, hr6⟩ := hr6
            replace hr6 := bnd hr6; obtain ⟨x51, h_29, hr6⟩ := hr6
            refine AB.rw <| zm rfl <| wS (v := (.ptr 5 0)) (sv (d_fa rfl (fap42_0 ..))) <| wS (v := (E_api_OutPoint x45.Prev)) (sv (d_load rfl (ldP rfl (partN (ds := (ar32 (eI .u8) x45.Prev.Tx [(eI .u32 x45.Prev.Index)])) ti39 rfl zl rfl)))) ?_
            refine wC (v := (.sl 6 0 x50.length 1 false)) (h' := [some ⟨26, [(eI .u32 t_Version), (.row none 35 (t_Inputs.map E_api_Input)), (.row none 2 (t_Outputs.map E_api_Output)), (eI .u32 t_Lock)]⟩, some ⟨29, [(eI .i64 o_Value), (.row none 1 (o_Script.map (eI .u8)))]⟩, some ⟨33, (List.replicate 32 0).map (eI .u8)⟩, some ⟨5, l3_1.map (eI .u8)⟩, some ⟨5, l4_1.map (eI .u8)⟩, some ⟨42, C_api_Input x45⟩, some ⟨5, x50.map (eI .u8)⟩]) rfl (zB (tx_Point_ok N x45.Prev.Tx x45.Prev.Index x50 h_28) []) ?_
            refine wS (v := (.sl 7 0 x51.length 1 false)) (h' := [some ⟨26, [(eI .u32 t_Version), (.row none 35 (t_Inputs.map E_api_Input)), (.row none 2 (t_Outputs.map E_api_Output)), (eI .u32 t_Lock)]⟩, some ⟨29, [(eI .i64 o_Value), (.row none 1 (o_Script.map (eI .u8)))]⟩, some ⟨33, (List.replicate 32 0).map (eI .u8)⟩, none, some ⟨5, l4_1.map (eI .u8)⟩, some ⟨42, C_api_Input x45⟩, some ⟨5, x50.map (eI .u8)⟩, some ⟨5, x51.map (eI .u8)⟩]) (sv (d_append rfl rfl (appS (E := (eI .u8)) rfl ti27 ti5 ⟨rfl, rfl, zl⟩ rfl (srcS rfl rfl) h_29 rfl rfl))) <| za rfl <| zn ?_
            replace hr6 := bnd hr6; obtain ⟨x55, h_30, hr6⟩ := hr6
            replace hr6 := bnd hr6; obtain ⟨x56, h_31, hr6⟩ := hr6
            refine AB.rw <| zm rfl <| wS (v := (.ptr 5 33)) (sv (d_fa rfl (fap42_1 ..))) <| wS (v := (eI .u32 x45.Sequence)) (sv (d_load rfl (ldP rfl (part1 ti22 rfl rfl)))) ?_
            refine wC (v := (.sl 8 0 x55.length 1 false)) (h' := [some ⟨26, [(eI .u32 t_Version), (.row none 35 (t_Inputs.map E_api_Input)), (.row none 2 (t_Outputs.map E_api_Output)), (eI .u32 t_Lock)]⟩, some ⟨29, [(eI .i64 o_Value), (.row none 1 (o_Script.map (eI .u8)))]⟩, some ⟨33, (List.replicate 32 0).map (eI .u8)⟩, none, some ⟨5, l4_1.map (eI .u8)⟩, some ⟨42, C_api_Input x45⟩, some ⟨5, x50.map (eI .u8)⟩, some ⟨5, x51.map (eI .u8)⟩, some ⟨5, x55.map (eI .u8)⟩]) rfl (zB (spend_number_ok N x45.Sequence x55 h_30) []) ?_
            refine wS (v := (.sl 9 0 x56.length 1 false)) (h' := [some ⟨26, [(eI .u32 t_Version), (.row none 35 (t_Inputs.map E_api_Input)), (.row none 2 (t_Outputs.map E_api_Output)), (eI .u32 t_Lock)]⟩, some ⟨29, [(eI .i64 o_Value), (.row none 1 (o_Script.map (eI .u8)))]⟩, some ⟨33, (List.replicate 32 0).map (eI .u8)⟩, none, none, some ⟨42, C_api_Input x45⟩, some ⟨5, x50.map (eI .u8)⟩, some ⟨5, x51.map (eI .u8)⟩, some ⟨5, x55.map (eI .u8)⟩, some ⟨5, x56.map (eI .u8)⟩]) (sv (d_append rfl rfl (appS (E := (eI .u8)) rfl ti27 ti5 ⟨rfl, rfl, zl⟩ rfl (srcS rfl rfl) h_31 rfl rfl))) <| za rfl <| OpsW.nil ?_
            refine Ex.inBlock_mk <| Ex.then_mk <| AB.rw <| wS (v := (eI .i64 (IntKind.i64.wrap (x43 + 1)))) (sv (d_bin rfl rfl (bin_add ..))) <| zm rfl <| zn ?_
            exact ⟨IntKind.i64.wrap (x43 + 1), x51, x56, hr6, (zG [0, 1, 2, 7, 9])⟩
          · replace hr6 := iteF hr6 h26
            refine AB.exit <| Ex.then_exit_mk <| Ex.then_exit_mk <| Ex.inBlock_same_mk ?_
            obtain rfl := Option.some.inj hr6
            refine Ex.then_mk ?_
            exact hG3 _ _ _ _ (zG [0, 1, 2, 3, 4]) (J3 l3_1 l4_1 hr)
      rcases Bool.eq_false_or_eq_true (decide (vi < 0)) with h32 | h32
      · replace hr := iteT hr h32
        refine AB.rw <| zm rfl <| wS (v := (eB (decide (vi < 0)))) (sv (d_bin rfl rfl (bin_lss ..))) <| zm rfl <| wS (svX rfl rfl h32) <| wS (svX rfl rfl h32) <| wS (svX rfl rfl h32) <| wS (svX rfl rfl h32) <| wS (svX rfl rfl h32) <| wS (v := (eB true)) (sv (d_pickT rfl h32 rfl)) <| zn ?_
        exact hG2 _ _ _ _ (zG [0, 1, 2]) (J2 true hr)
      · replace hr := iteF hr h32
        refine AB.rw <| zm rfl <| wS (v := (eB (decide (vi < 0)))) (sv (d_bin rfl rfl (bin_lss ..))) <| zm rfl <| wS (svG rfl rfl h32 (d_move rfl)) <| wS (v := (.ptr 0 1)) (svG rfl rfl h32 (d_fa rfl (fap26_1 ..))) <| wS (v := (.row none 35 (t_Inputs.map E_api_Input))) (svG rfl rfl h32 (d_load rfl (ldP rfl (part1 ti23 rfl rfl)))) <| wS (v := (eI .i64 (t_Inputs.length : Int))) (svG rfl rfl h32 (d_len rfl (lenR ti23))) <| wS (svG rfl rfl h32 (d_bin rfl rfl (bin_geq ..))) <| wS (v := (eB (decide ((t_Inputs.length : Int) ≤ vi)))) (sv (d_pickF rfl h32 rfl)) <| zn ?_
        exact hG2 _ _ _ _ (zG [0, 1, 2]) (J2 (decide ((t_Inputs.length : Int) ≤ vi)) hr)
  replace hr := bnd hr; obtain ⟨x16, h_33, hr⟩ := hr
  rcases Bool.eq_false_or_eq_true (!x16) with h34 | h34
  · replace hr := iteT hr h34
    refine AB.rw <| wS (v := (.agg [(eI .u32 t_Version), (.row none 35 (t_Inputs.map E_api_Input)), (.row none 2 (t_Outputs.map E_api_Output)), (eI .u32 t_Lock)])) (sv (d_load rfl (ldP rfl (partN (ds := [(eI .u32 t_Version), (.row none 35 (t_Inputs.map E_api_Input)), (.row none 2 (t_Outputs.map E_api_Output)), (eI .u32 t_Lock)]) ti26 rfl zl rfl)))) <| wC rfl (Vm.Fn.pure (spend_fits_ok N t_Version t_Inputs t_Outputs t_Lock x16 h_33) rfl rfl) <| wS (sv (d_un rfl (un_not _ _))) <| zm rfl <| wS (svX rfl rfl h34) <| wS (svX rfl rfl h34) <| wS (svX rfl rfl h34) <| wS (v := (eB true)) (sv (d_pickT rfl h34 rfl)) ?_
    refine zm rfl <| wS (svX rfl rfl rfl) <| wS (svX rfl rfl rfl) <| wS (svX rfl rfl rfl) <| wS (svX rfl rfl rfl) <| wS (v := (eB true)) (sv (d_pickT rfl rfl rfl)) <| zn ?_
    exact hG1 _ _ _ _ (zG [0, 1, 2]) (J1 true hr)
  · replace hr := iteF hr h34
    rcases Bool.eq_false_or_eq_true (decide (o_Value < 0)) with h35 | h35
    · replace hr := iteT hr h35
      refine AB.rw <| wS (v := (.agg [(eI .u32 t_Version), (.row none 35 (t_Inputs.map E_api_Input)), (.row none 2 (t_Outputs.map E_api_Output)), (eI .u32 t_Lock)])) (sv (d_load rfl (ldP rfl (partN (ds := [(eI .u32 t_Version), (.row none 35 (t_Inputs.map E_api_Input)), (.row none 2 (t_Outputs.map E_api_Output)), (eI .u32 t_Lock)]) ti26 rfl zl rfl)))) <| wC rfl (Vm.Fn.pure (spend_fits_ok N t_Version t_Inputs t_Outputs t_Lock x16 h_33) rfl rfl) <| wS (sv (d_un rfl (un_not _ _))) <| zm rfl <| wS (v := (.ptr 1 0)) (svG rfl rfl h34 (d_fa rfl (fap29_0 ..))) ?_
      refine wS (v := (eI .i64 o_Value)) (svG rfl rfl h34 (d_load rfl (ldP rfl (part1 ti2 rfl rfl)))) <| wS (v := (eB (decide (o_Value < 0)))) (svG rfl rfl h34 (d_bin rfl rfl (bin_lss ..))) <| wS (v := (eB (decide (o_Value < 0)))) (sv (d_pickF rfl h34 rfl)) <| zm rfl <| wS (svX rfl rfl h35) <| wS (svX rfl rfl h35) <| wS (svX rfl rfl h35) <| wS (svX rfl rfl h35) <| wS (v := (eB true)) (sv (d_pickT rfl h35 rfl)) <| zn ?_
      exact hG1 _ _ _ _ (zG [0, 1, 2]) (J1 true hr)
    · replace hr := iteF hr h35
      refine AB.rw <| wS (v := (.agg [(eI .u32 t_Version), (.row none 35 (t_Inputs.map E_api_Input)), (.row none 2 (t_Outputs.map E_api_Output)), (eI .u32 t_Lock)])) (sv (d_load rfl (ldP rfl (partN (ds := [(eI .u32 t_Version), (.row none 35 (t_Inputs.map E_api_Input)), (.row none 2 (t_Outputs.map E_api_Output)), (eI .u32 t_Lock)]) ti26 rfl zl rfl)))) <| wC rfl (Vm.Fn.pure (spend_fits_ok N t_Version t_Inputs t_Outputs t_Lock x16 h_33) rfl rfl) <| wS (sv (d_un rfl (un_not _ _))) <| zm rfl <| wS (v := (.ptr 1 0)) (svG rfl rfl h34 (d_fa rfl (fap29_0 ..))) ?_
      refine wS (v := (eI .i64 o_Value)) (svG rfl rfl h34 (d_load rfl (ldP rfl (part1 ti2 rfl rfl)))) <| wS (v := (eB (decide (o_Value < 0)))) (svG rfl rfl h34 (d_bin rfl rfl (bin_lss ..))) <| wS (v := (eB (decide (o_Value < 0)))) (sv (d_pickF rfl h34 rfl)) <| zm rfl <| wS (v := (.ptr 1 1)) (svG rfl rfl h35 (d_fa rfl (fap29_1 ..))) <| wS (v := (.row none 1 (o_Script.map (eI .u8)))) (svG rfl rfl h35 (d_load rfl (ldP rfl (part1 ti27 rfl rfl)))) <| wS (v := (eI .i64 (o_Script.length : Int))) (svG rfl rfl h35 (d_len rfl (lenR ti27))) ?_
      refine wS (v := (eB (decide (520 < (o_Script.length : Int))))) (svG rfl rfl h35 (d_bin rfl rfl (bin_gtr ..))) <| wS (v := (eB (decide (520 < (o_Script.length : Int))))) (sv (d_pickF rfl h35 rfl)) <| zn ?_
      exact hG1 _ _ _ _ (zG [0, 1, 2]) (J1 (decide (520 < (o_Script.length : Int))) hr)
set_option maxRecDepth 20000 in
set_option maxHeartbeats 1000000 in
theorem ref01_little_ok (N : Nat) (v : Int) (vn : Int) (r : (List Int)) (hr : ref01_little N v vn = some r) :
    Vm.Fn Tryd.prog 36 [] [(eI .u64 v), (eI .i64 vn)] (.sl 0 0 r.length 1 false) [some ⟨5, r.map (eI .u8)⟩] := by
  refine fn_ab Tryd.func36 rfl (by kernel_rfl) Tryd.ntmps36 zl rfl (fr := [(0, (eI .u64 v)), (1, (eI .i64 vn))]) rfl ?_
  unfold ref01_little at hr
  refine zq <| wS (v := (.row (some true) 1 [])) (sv (d_assign rfl)) <| zn <| AB.seq ?_
  replace hr := bnd hr; obtain ⟨x8, h_1, hr⟩ := hr
  refine AB.rw <| zm rfl <| wS (v := (.sl 0 0 x8.length 1 false)) (h' := [some ⟨5, x8.map (eI .u8)⟩]) (sv (d_mk rfl rfl (mkS (E := (eI .u8)) (y := 0) ti27 ti5 ⟨zl, rfl, rfl⟩ rfl rfl rfl h_1 rfl rfl))) <| za rfl <| zn ?_
  refine AB.seq_g fun K1 hK1 hG1 => ?_
  have J1 : ∀ (l0 : List Int), ref01_little_J1 N l0 = some r → K1 (mkF 24 [(5, (.sl 0 0 l0.length 1 false))]) [some ⟨5, l0.map (eI .u8)⟩] := by
    intro l0 hr
    unfold ref01_little_J1 at hr
    refine hK1 _ _ <| zq <| zm rfl <| za rfl <| zn <| AB.ret ?_
    obtain rfl := Option.some.inj hr
    exact done_ret (r1 := (.sl 0 0 l0.length 1 false)) (res1 Tryd.results36 (rvT rfl)) (zG [0])
  refine zq <| zm rfl <| wS (v := (eI .i64 (x8.length : Int))) (sv (d_len rfl (lenS ti27))) <| wS (v := (eI .i64 0)) (sv (d_move rfl)) <| zn ?_
  replace hr := bnd hr; obtain ⟨res2, hL2, hr⟩ := hr
  refine AB.block <| AB.loopN (fun m s h => ∃ (x11 : Int) (l0_1 : List Int), ref01_little_L2 N v x8 m x11 l0_1 = some res2 ∧ Ghost 0 s h (mkF 24 [(0, (eI .u64 v)), (5, (.sl 0 0 l0_1.length 1 false)), (10, (eI .i64 (x8.length : Int))), (11, (eI .i64 x11))]) [some ⟨5, l0_1.map (eI .u8)⟩]) (n := N) ⟨0, x8, hL2, (zG [0])⟩ (by rintro s h ⟨_, _, h0, _⟩; simp [ref01_little_L2] at h0) ?_
  rintro m2 s h ⟨x11, l0_1, hr2, hg⟩
  refine AB.ghost hg ?_
  clear hg hL2
  rw [ref01_little_L2] at hr2
  refine zq <| wS (sv (d_bin rfl rfl (bin_lss ..))) <| zn <| AB.seq ?_
  refine AB.cnd rfl (fun h2 => ?_) (fun h2 => ?_)
  · replace hr2 := iteT hr2 h2
    refine AB.skip <| Ex.then_mk <| AB.seq <| AB.block <| zq <| zm rfl <| za rfl <| zn ?_
    replace hr2 := bnd hr2; obtain ⟨x19, h_3, hr2⟩ := hr2
    replace hr2 := bnd hr2; obtain ⟨x21, h_4, hr2⟩ := hr2
    refine AB.rw <| zm rfl <| zm rfl <| zm rfl <| zm rfl <| wS (v := (eI .i64 (IntKind.i64.wrap (8 * x11)))) (sv (d_bin rfl rfl (bin_mul ..))) <| wS (sv (d_bin rfl rfl (bin_shr' _ _ _ _ h_3))) <| wS (sv (d_conv rfl (conv_int _ ⟨_, ti65⟩ ti5 rfl))) <| wS (v := (.ptr 0 (Int.toNat x11))) (sv (d_ia rfl rfl (iaS rfl ti27 ti5 rfl h_4))) <| wN (h' := [some ⟨5, (l0_1.set (Int.toNat x11) (IntKind.u8.wrap x19)).map (eI .u8)⟩]) (sv (d_store rfl rfl (stXe (E := (eI .u8)) (y := IntKind.u8.wrap x19) ti5 rfl rfl h_4 rfl rfl rfl))) <| OpsW.nil <| Ex.inBlock_mk <| Ex.then_mk <| AB.rw ?_
    refine wS (v := (eI .i64 (IntKind.i64.wrap (x11 + 1)))) (sv (d_bin rfl rfl (bin_add ..))) <| zm rfl <| zn ?_
    exact ⟨IntKind.i64.wrap (x11 + 1), l0_1.set (Int.toNat x11) (IntKind.u8.wrap x19), hr2, (Ghost.rn [0] rfl rfl (FLe.same rfl (FLe.le rfl (by first | exact V.le_refl _ _ | (simp only [len_set, len_cpy]; exact V.le_refl _ _)) (FLe.same rfl (FLe.same rfl FLe.nil)))) (HLe.live rfl (les_map (fun _ => rfl) _) (all_map (fun _ => rfl) _) HLe.nil) rfl)⟩
  · replace hr2 := iteF hr2 h2
    refine AB.exit <| Ex.then_exit_mk <| Ex.then_exit_mk <| Ex.inBlock_same_mk ?_
    obtain rfl := Option.some.inj hr2
    refine Ex.then_mk ?_
    exact hG1 _ _ _ _ (zG [0]) (J1 l0_1 hr)
set_option maxRecDepth 20000 in
set_option maxHeartbeats 1000000 in
theorem ref01_joined_ok (N : Nat) (va : List Int) (b : List Int) (r : (List Int)) (hr : ref01_joined N va b = some r) :
    Vm.Fn Tryd.prog 35 [] [(.row none 1 (va.map (eI .u8))), (.row none 1 (b.map (eI .u8)))] (.sl 0 0 r.length 1 false) [some ⟨5, r.map (eI .u8)⟩] := by
  refine fn_ab Tryd.func35 rfl (by kernel_rfl) Tryd.ntmps35 zl rfl (fr := [(0, (.row none 1 (va.map (eI .u8)))), (1, (.row none 1 (b.map (eI .u8))))]) rfl ?_
  unfold ref01_joined at hr
  refine zq <| wS (v := (.row (some true) 1 [])) (sv (d_assign rfl)) <| zn <| AB.seq ?_
  replace hr := bnd hr; obtain ⟨x11, h_1, hr⟩ := hr
  refine AB.rw <| zm rfl <| wS (v := (eI .i64 (va.length : Int))) (sv (d_len rfl (lenR ti27))) <| zm rfl <| wS (v := (eI .i64 (b.length : Int))) (sv (d_len rfl (lenR ti27))) <| wS (sv (d_bin rfl rfl (bin_add ..))) <| wS (v := (.sl 0 0 0 1 false)) (h' := [some ⟨5, x11.map (eI .u8)⟩]) (sv (d_mk rfl rfl (mkC (E := (eI .u8)) (y := 0) ti27 ti5 ⟨zl, rfl, rfl⟩ rfl rfl rfl h_1 rfl rfl))) <| za rfl <| zn <| AB.seq ?_
  replace hr := bnd hr; obtain ⟨x14, h_2, hr⟩ := hr
  replace hr := bnd hr; obtain ⟨x16, h_3, hr⟩ := hr
  refine AB.rw <| zm rfl <| zm rfl <| wS (v := (.sl 1 0 x14.length 1 false)) (h' := [none, some ⟨5, x14.map (eI .u8)⟩]) (sv (d_append rfl rfl (appP (E := (eI .u8)) (Nat.zero_le _) ti27 ti5 ⟨rfl, rfl, zl⟩ rfl (srcR (fun _ => rfl)) h_2 rfl rfl))) <| zm rfl <| wS (v := (.sl 2 0 x16.length 1 false)) (h' := [none, none, some ⟨5, x16.map (eI .u8)⟩]) (sv (d_append rfl rfl (appS (E := (eI .u8)) rfl ti27 ti5 ⟨rfl, rfl, zl⟩ rfl (srcR (fun _ => rfl)) h_3 rfl rfl))) <| za rfl <| zn <| AB.ret ?_
  obtain rfl := Option.some.inj hr
  exact done_ret (r1 := (.sl 2 0 x16.length 1 false)) (res1 Tryd.results35 (rvT rfl)) (zG [2])
set_option maxRecDepth 20000 in
set_option maxHeartbeats 1000000 in
theorem ref01_AppendU32_ok (N : Nat) (b : List Int) (vn : Int) (r : (List Int)) (hr : ref01_AppendU32 N b vn = some r) :
    Vm.Fn Tryd.prog 20 [] [(.row none 1 (b.map (eI .u8))), (eI .u32 vn)] (.sl 0 0 r.length 1 false) [some ⟨5, r.map (eI .u8)⟩] := by
  refine fn_ab Tryd.func20 rfl (by kernel_rfl) Tryd.ntmps20 zl rfl (fr := [(0, (.row none 1 (b.map (eI .u8)))), (1, (eI .u32 vn))]) rfl ?_
  unfold ref01_AppendU32 at hr
  refine zq <| wS (v := (.row (some true) 1 [])) (sv (d_assign rfl)) <| zn <| AB.seq ?_
  replace hr := bnd hr; obtain ⟨x8, h_1, hr⟩ := hr
  replace hr := bnd hr; obtain ⟨x9, h_2, hr⟩ := hr
  refine AB.rw <| zm rfl <| zm rfl <| wS (sv (d_conv rfl (conv_int _ ⟨_, ti22⟩ ti65 rfl))) <| wC (v := (.sl 0 0 x8.length 1 false)) (h' := [some ⟨5, x8.map (eI .u8)⟩]) rfl (zB (ref01_little_ok N (IntKind.u64.wrap vn) 4 x8 h_1) []) <| wC (v := (.sl 1 0 x9.length 1 false)) (h' := [some ⟨5, x8.map (eI .u8)⟩, some ⟨5, x9.map (eI .u8)⟩]) rfl (zL (ref01_joined_ok N b x8 x9 h_2) [] [0]) <| za rfl <| zn <| AB.ret ?_
  obtain rfl := Option.some.inj hr
  exact done_ret (r1 := (.sl 1 0 x9.length 1 false)) (res1 Tryd.results20 (rvT rfl)) (zG [1])
set_option maxRecDepth 20000 in
set_option maxHeartbeats 1000000 in
theorem ref01_AppendSize_ok (N : Nat) (b : List Int) (vn : Int) (r : (List Int)) (hr : ref01_AppendSize N b vn = some r) :
    Vm.Fn Tryd.prog 51 [] [(.row none 1 (b.map (eI .u8))), (eI .u64 vn)] (.sl 0 0 r.length 1 false) [some ⟨5, r.map (eI .u8)⟩] := by
  refine fn_ab Tryd.func51 rfl (by kernel_rfl) Tryd.ntmps51 zl rfl (fr := [(0, (.row none 1 (b.map (eI .u8)))), (1, (eI .u64 vn))]) rfl ?_
  unfold ref01_AppendSize at hr
  refine zq <| wS (v := (.row (some true) 1 [])) (sv (d_assign rfl)) <| zn <| AB.seq <| AB.block <| zq <| zm rfl <| wS (v := (eB (decide (vn < 253)))) (sv (d_bin rfl rfl (bin_lss ..))) <| za rfl <| zn ?_
  refine AB.cnd rfl (fun h1 => ?_) (fun h1 => ?_)
  · replace hr := iteT hr h1
    refine AB.seq ?_
    replace hr := bnd hr; obtain ⟨x10, h_2, hr⟩ := hr
    replace hr := bnd hr; obtain ⟨x11, h_3, hr⟩ := hr
    refine AB.rw <| zm rfl <| zm rfl <| wC (v := (.sl 0 0 x10.length 1 false)) (h' := [some ⟨5, x10.map (eI .u8)⟩]) rfl (zB (ref01_little_ok N vn 1 x10 h_2) []) <| wC (v := (.sl 1 0 x11.length 1 false)) (h' := [some ⟨5, x10.map (eI .u8)⟩, some ⟨5, x11.map (eI .u8)⟩]) rfl (zL (ref01_joined_ok N b x10 x11 h_3) [] [0]) <| za rfl <| zn <| AB.ret <| Ex.inBlock_ret_mk <| Ex.then_ret_mk ?_
    obtain rfl := Option.some.inj hr
    exact done_ret (r1 := (.sl 1 0 x11.length 1 false)) (res1 Tryd.results51 (rvT rfl)) (zG [1])
  · replace hr := iteF hr h1
    refine zq <| zm rfl <| wS (v := (eB (decide (vn < 65536)))) (sv (d_bin rfl rfl (bin_lss ..))) <| za rfl <| zn ?_
    refine AB.cnd rfl (fun h4 => ?_) (fun h4 => ?_)
    · replace hr := iteT hr h4
      refine AB.seq ?_
      replace hr := bnd hr; obtain ⟨x18, h_5, hr⟩ := hr
      replace hr := bnd hr; obtain ⟨x19, h_6, hr⟩ := hr
      replace hr := bnd hr; obtain ⟨x20, h_7, hr⟩ := hr
      refine AB.rw <| zm rfl <| wS (v := (.sl 0 0 1 1 false)) (h' := [some ⟨5, [253].map (eI .u8)⟩]) (sv (d_buildS rfl (bldL1 (xs := [253].map (eI .u8)) ti27 ti5 zl zl rfl rfl rfl rfl rfl rfl rfl))) <| zm rfl <| wC (v := (.sl 1 0 x18.length 1 false)) (h' := [some ⟨5, [253].map (eI .u8)⟩, some ⟨5, x18.map (eI .u8)⟩]) rfl (zB (ref01_little_ok N vn 2 x18 h_5) []) <| wC (v := (.sl 2 0 x19.length 1 false)) (h' := [some ⟨5, [253].map (eI .u8)⟩, some ⟨5, x18.map (eI .u8)⟩, some ⟨5, x19.map (eI .u8)⟩]) rfl (zL (ref01_joined_ok N [253] x18 x19 h_6) [] [0, 1]) ?_
      refine wC (v := (.sl 3 0 x20.length 1 false)) (h' := [some ⟨5, [253].map (eI .u8)⟩, some ⟨5, x18.map (eI .u8)⟩, some ⟨5, x19.map (eI .u8)⟩, some ⟨5, x20.map (eI .u8)⟩]) rfl (zL (ref01_joined_ok N b x19 x20 h_7) [] [2]) <| za rfl <| zn <| AB.ret <| Ex.inBlock_ret_mk <| Ex.then_ret_mk ?_
      obtain rfl := Option.some.inj hr
      exact done_ret (r1 := (.sl 3 0 x20.length 1 false)) (res1 Tryd.results51 (rvT rfl)) (zG [3])
    · replace hr := iteF hr h4
      refine zq <| zm rfl <| wS (v := (eB (decide (vn < 4294967296)))) (sv (d_bin rfl rfl (bin_lss ..))) <| za rfl <| zn ?_
      refine AB.cnd rfl (fun h8 => ?_) (fun h8 => ?_)
      · replace hr := iteT hr h8
        refine AB.seq ?_
        replace hr := bnd hr; obtain ⟨x27, h_9, hr⟩ := hr
        replace hr := bnd hr; obtain ⟨x28, h_10, hr⟩ := hr
        replace hr := bnd hr; obtain ⟨x29, h_11, hr⟩ := hr
        refine AB.rw <| zm rfl <| wS (v := (.sl 0 0 1 1 false)) (h' := [some ⟨5, [254].map (eI .u8)⟩]) (sv (d_buildS rfl (bldL1 (xs := [254].map (eI .u8)) ti27 ti5 zl zl rfl rfl rfl rfl rfl rfl rfl))) <| zm rfl <| wC (v := (.sl 1 0 x27.length 1 false)) (h' := [some ⟨5, [254].map (eI .u8)⟩, some ⟨5, x27.map (eI .u8)⟩]) rfl (zB (ref01_little_ok N vn 4 x27 h_9) []) <| wC (v := (.sl 2 0 x28.length 1 false)) (h' := [some ⟨5, [254].map (eI .u8)⟩, some ⟨5, x27.map (eI .u8)⟩, some ⟨5, x28.map (eI .u8)⟩]) rfl (zL (ref01_joined_ok N [254] x27 x28 h_10) [] [0, 1]) ?_
        refine wC (v := (.sl 3 0 x29.length 1 false)) (h' := [some ⟨5, [254].map (eI .u8)⟩, some ⟨5, x27.map (eI .u8)⟩, some ⟨5, x28.map (eI .u8)⟩, some ⟨5, x29.map (eI .u8)⟩]) rfl (zL (ref01_joined_ok N b x28 x29 h_11) [] [2]) <| za rfl <| zn <| AB.ret <| Ex.inBlock_ret_mk <| Ex.then_ret_mk ?_
        obtain rfl := Option.some.inj hr
        exact done_ret (r1 := (.sl 3 0 x29.length 1 false)) (res1 Tryd.results51 (rvT rfl)) (zG [3])
      · replace hr := iteF hr h8
        refine AB.skip <| Ex.inBlock_mk <| Ex.then_mk <| AB.seq ?_
        replace hr := bnd hr; obtain ⟨x33, h_12, hr⟩ := hr
        replace hr := bnd hr; obtain ⟨x34, h_13, hr⟩ := hr
        replace hr := bnd hr; obtain ⟨x35, h_14, hr⟩ := hr
        refine AB.rw <| zm rfl <| wS (v := (.sl 0 0 1 1 false)) (h' := [some ⟨5, [255].map (eI .u8)⟩]) (sv (d_buildS rfl (bldL1 (xs := [255].map (eI .u8)) ti27 ti5 zl zl rfl rfl rfl rfl rfl rfl rfl))) <| zm rfl <| wC (v := (.sl 1 0 x33.length 1 false)) (h' := [some ⟨5, [255].map (eI .u8)⟩, some ⟨5, x33.map (eI .u8)⟩]) rfl (zB (ref01_little_ok N vn 8 x33 h_12) []) <| wC (v := (.sl 2 0 x34.length 1 false)) (h' := [some ⟨5, [255].map (eI .u8)⟩, some ⟨5, x33.map (eI .u8)⟩, some ⟨5, x34.map (eI .u8)⟩]) rfl (zL (ref01_joined_ok N [255] x33 x34 h_13) [] [0, 1]) ?_
        refine wC (v := (.sl 3 0 x35.length 1 false)) (h' := [some ⟨5, [255].map (eI .u8)⟩, some ⟨5, x33.map (eI .u8)⟩, some ⟨5, x34.map (eI .u8)⟩, some ⟨5, x35.map (eI .u8)⟩]) rfl (zL (ref01_joined_ok N b x34 x35 h_14) [] [2]) <| za rfl <| zn <| AB.ret ?_
        obtain rfl := Option.some.inj hr
        exact done_ret (r1 := (.sl 3 0 x35.length 1 false)) (res1 Tryd.results51 (rvT rfl)) (zG [3])
set_option maxRecDepth 20000 in
set_option maxHeartbeats 1000000 in
theorem ref01_AppendHash_ok (N : Nat) (b : List Int) (vh : List Int) (r : (List Int)) (hr : ref01_AppendHash N b vh = some r) :
    Vm.Fn Tryd.prog 22 [] [(.row none 1 (b.map (eI .u8))), (.agg (vh.map (eI .u8)))] (.sl 0 0 r.length 1 false) [some ⟨5, r.map (eI .u8)⟩] := by
  refine fn_ab Tryd.func22 rfl (by kernel_rfl) Tryd.ntmps22 zl rfl (fr := [(0, (.row none 1 (b.map (eI .u8)))), (1, (.agg (vh.map (eI .u8))))]) rfl ?_
  unfold ref01_AppendHash at hr
  refine zq <| wS (v := (.ptr 0 0)) (h' := [some ⟨33, vh.map (eI .u8)⟩]) (sv (d_box rfl (flatA (fun _ => rfl)) rfl rfl)) <| wS (v := (.row (some true) 1 [])) (sv (d_assign rfl)) <| zn <| AB.seq ?_
  replace hr := bnd hr; obtain ⟨q, h_1, hr⟩ := hr
  replace hr := bnd hr; obtain ⟨x7, h_2, hr⟩ := hr
  refine AB.rw <| zm rfl <| wS (v := (.sl 0 0 32 1 false)) (sv (d_slice rfl rfl rfl (slA (E := (eI .u8)) (l := vh) ti33 ti5 rfl rfl rfl (arr_len h_1) ⟨zl, zl⟩))) <| wC (v := (.sl 1 0 x7.length 1 false)) (h' := [some ⟨33, vh.map (eI .u8)⟩, some ⟨5, x7.map (eI .u8)⟩]) rfl (Vm.Fn.lendR (ref01_joined_ok N b vh x7 h_2) [] [0] (by decide) rfl (by decide) Lend.nil (Brw.same rfl (Brw.row (exp_slT (arr_len h_1) rfl (fun _ => rfl)) Brw.nil)) rfl (rfB.live (rfs_map (fun _ => rfl) _) rfB.nil) rfl zH) <| za rfl <| zn <| AB.ret ?_
  obtain rfl := Option.some.inj hr
  exact done_ret (r1 := (.sl 1 0 x7.length 1 false)) (res1 Tryd.results22 (rvT rfl)) (zG [1])
set_option maxRecDepth 20000 in
set_option maxHeartbeats 1000000 in
theorem ref09_Point_ok (N : Nat) (o_Tx : List Int) (o_Index : Int) (r : (List Int)) (hr : ref09_Point N o_Tx o_Index = some r) :
    Vm.Fn Tryd.prog 19 [] [(.agg (ar32 (eI .u8) o_Tx [(eI .u32 o_Index)]))] (.sl 0 0 r.length 1 false) [some ⟨5, r.map (eI .u8)⟩] := by
  refine fn_ab Tryd.func19 rfl (by kernel_rfl) Tryd.ntmps19 zl rfl (fr := [(0, (.agg (ar32 (eI .u8) o_Tx [(eI .u32 o_Index)])))]) rfl ?_
  unfold ref09_Point at hr
  refine zq <| wS (v := (.ptr 0 0)) (h' := [some ⟨39, (ar32 (eI .u8) o_Tx [(eI .u32 o_Index)])⟩]) (sv (d_box rfl rfl rfl rfl)) <| wS (v := (.row (some true) 1 [])) (sv (d_assign rfl)) <| zn <| AB.seq ?_
  replace hr := bnd hr; obtain ⟨q, h_1, hr⟩ := hr
  replace hr := bnd hr; obtain ⟨x5, h_2, hr⟩ := hr
  replace hr := bnd hr; obtain ⟨x8, h_4, hr⟩ := hr
  refine AB.rd (memF []) (memF [20, 22]) mixed <| DrawG.pick (n := 6) (i := 0) (by decide +kernel) rfl (gS (v := (.ptr 0 0)) (sv (d_fa rfl (fap39_0 ..)))) <| DrawG.pick (n := 5) (i := 1) (by decide +kernel) rfl (gS (v := (.agg (o_Tx.map (eI .u8)))) (sv (d_load rfl (ldP rfl (to32 (arr_len h_1) (partN (ds := (ar32 (eI .u8) o_Tx [])) ti33 rfl zl rfl)))))) ?_
  refine DrawG.pick (n := 4) (i := 2) (by decide +kernel) rfl (gC (v := (.sl 1 0 x5.length 1 false)) (h' := [some ⟨39, (ar32 (eI .u8) o_Tx [(eI .u32 o_Index)])⟩, some ⟨5, x5.map (eI .u8)⟩]) (Vm.Fn.argsLe (zB (ref01_AppendHash_ok N [] o_Tx x5 h_2) []) (V.les_cons V.le_nil (V.les_cons (V.le_refl _ _) V.les_nil))) (fun h => absurd h (by decide)) (fun _ => ⟨_, rfl⟩) (sv (d_call rfl orc1_hit))) ?_
  refine DrawG.pick (n := 3) (i := 3) (by decide +kernel) rfl (gS (v := (.ptr 0 32)) (sv (d_fa rfl (fap39_1 ..)))) <| DrawG.pick (n := 2) (i := 4) (by decide +kernel) rfl (gS (v := (eI .u32 o_Index)) (sv (d_load rfl (ldP rfl (part1 ti22 rfl rfl))))) ?_
  refine DrawG.pick (n := 1) (i := 5) (by decide +kernel) rfl (gC (v := (.sl 2 0 x8.length 1 false)) (h' := [some ⟨39, (ar32 (eI .u8) o_Tx [(eI .u32 o_Index)])⟩, some ⟨5, x5.map (eI .u8)⟩, some ⟨5, x8.map (eI .u8)⟩]) (zL (ref01_AppendU32_ok N x5 o_Index x8 h_4) [] [1]) (fun h => absurd h (by decide)) (fun _ => ⟨_, rfl⟩) (sv (d_call rfl orc1_hit))) ?_
  refine DrawG.pick (n := 0) (i := 6) (by decide +kernel) rfl (gS (v := (.sl 2 0 x8.length 1 false)) (sv (d_assign rfl))) <| DrawG.nil (by decide +kernel) <| Ex.then_mk <| AB.ret ?_
  obtain rfl := Option.some.inj hr
  exact done_ret (r1 := (.sl 2 0 x8.length 1 false)) (res1 Tryd.results19 (rvT rfl)) (zG [2])
set_option maxRecDepth 20000 in
set_option maxHeartbeats 1000000 in
theorem ref01_AppendU64_ok (N : Nat) (b : List Int) (vn : Int) (r : (List Int)) (hr : ref01_AppendU64 N b vn = some r) :
    Vm.Fn Tryd.prog 38 [] [(.row none 1 (b.map (eI .u8))), (eI .u64 vn)] (.sl 0 0 r.length 1 false) [some ⟨5, r.map (eI .u8)⟩] := by
  refine fn_ab Tryd.func38 rfl (by kernel_rfl) Tryd.ntmps38 zl rfl (fr := [(0, (.row none 1 (b.map (eI .u8)))), (1, (eI .u64 vn))]) rfl ?_
  unfold ref01_AppendU64 at hr
  refine zq <| wS (v := (.row (some true) 1 [])) (sv (d_assign rfl)) <| zn <| AB.seq ?_
  replace hr := bnd hr; obtain ⟨x7, h_1, hr⟩ := hr
  replace hr := bnd hr; obtain ⟨x8, h_2, hr⟩ := hr
  refine AB.rw <| zm rfl <| zm rfl <| wC (v := (.sl 0 0 x7.length 1 false)) (h' := [some ⟨5, x7.map (eI .u8)⟩]) rfl (zB (ref01_little_ok N vn 8 x7 h_1) []) <| wC (v := (.sl 1 0 x8.length 1 false)) (h' := [some ⟨5, x7.map (eI .u8)⟩, some ⟨5, x8.map (eI .u8)⟩]) rfl (zL (ref01_joined_ok N b x7 x8 h_2) [] [0]) <| za rfl <| zn <| AB.ret ?_
  obtain rfl := Option.some.inj hr
  exact done_ret (r1 := (.sl 1 0 x8.length 1 false)) (res1 Tryd.results38 (rvT rfl)) (zG [1])
set_option maxRecDepth 20000 in
set_option maxHeartbeats 1000000 in
theorem ref01_AppendBytes_ok (N : Nat) (b : List Int) (vs : List Int) (r : (List Int)) (hr : ref01_AppendBytes N b vs = some r) :
    Vm.Fn Tryd.prog 37 [] [(.row none 1 (b.map (eI .u8))), (.row none 1 (vs.map (eI .u8)))] (.sl 0 0 r.length 1 false) [some ⟨5, r.map (eI .u8)⟩] := by
  refine fn_ab Tryd.func37 rfl (by kernel_rfl) Tryd.ntmps37 zl rfl (fr := [(0, (.row none 1 (b.map (eI .u8)))), (1, (.row none 1 (vs.map (eI .u8))))]) rfl ?_
  unfold ref01_AppendBytes at hr
  refine zq <| wS (v := (.row (some true) 1 [])) (sv (d_assign rfl)) <| zn <| AB.seq ?_
  replace hr := bnd hr; obtain ⟨x9, h_1, hr⟩ := hr
  replace hr := bnd hr; obtain ⟨x11, h_2, hr⟩ := hr
  refine AB.rw <| zm rfl <| zm rfl <| wS (v := (eI .i64 (vs.length : Int))) (sv (d_len rfl (lenR ti27))) <| wS (sv (d_conv rfl (conv_int _ ⟨_, ti3⟩ ti65 rfl))) <| wC (v := (.sl 0 0 x9.length 1 false)) (h' := [some ⟨5, x9.map (eI .u8)⟩]) rfl (zB (ref01_AppendSize_ok N b (IntKind.u64.wrap (vs.length : Int)) x9 h_1) []) <| zm rfl <| wC (v := (.sl 1 0 x11.length 1 false)) (h' := [some ⟨5, x9.map (eI .u8)⟩, some ⟨5, x11.map (eI .u8)⟩]) rfl (zL (ref01_joined_ok N x9 vs x11 h_2) [] [0]) <| za rfl <| zn <| AB.ret ?_
  obtain rfl := Option.some.inj hr
  exact done_ret (r1 := (.sl 1 0 x11.length 1 false)) (res1 Tryd.results37 (rvT rfl)) (zG [1])
set_option maxRecDepth 20000 in
set_option maxHeartbeats 1000000 in
theorem ref09_Out_ok (N : Nat) (o_Value : Int) (o_Script : List Int) (r : (List Int)) (hr : ref09_Out N o_Value o_Script = some r) :
    Vm.Fn Tryd.prog 21 [] [(.agg [(eI .i64 o_Value), (.row none 1 (o_Script.map (eI .u8)))])] (.sl 0 0 r.length 1 false) [some ⟨5, r.map (eI .u8)⟩] := by
  refine fn_ab Tryd.func21 rfl (by kernel_rfl) Tryd.ntmps21 zl rfl (fr := [(0, (.agg [(eI .i64 o_Value), (.row none 1 (o_Script.map (eI .u8)))]))]) rfl ?_
  unfold ref09_Out at hr
  refine zq <| wS (v := (.ptr 0 0)) (h' := [some ⟨29, [(eI .i64 o_Value), (.row none 1 (o_Script.map (eI .u8)))]⟩]) (sv (d_box rfl rfl rfl rfl)) <| wS (v := (.row (some true) 1 [])) (sv (d_assign rfl)) <| zn <| AB.seq ?_
  replace hr := bnd hr; obtain ⟨x6, h_1, hr⟩ := hr
  replace hr := bnd hr; obtain ⟨x9, h_3, hr⟩ := hr
  refine AB.rd (memF []) (memF [37, 38]) mixed <| DrawG.pick (n := 7) (i := 0) (by decide +kernel) rfl (gS (v := (.ptr 0 0)) (sv (d_fa rfl (fap29_0 ..)))) <| DrawG.pick (n := 6) (i := 1) (by decide +kernel) rfl (gS (v := (eI .i64 o_Value)) (sv (d_load rfl (ldP rfl (part1 ti2 rfl rfl))))) <| DrawG.pick (n := 5) (i := 2) (by decide +kernel) rfl (gS (v := (eI .u64 (IntKind.u64.wrap o_Value))) (sv (d_conv rfl (conv_int _ ⟨_, ti2⟩ ti65 rfl)))) ?_
  refine DrawG.pick (n := 4) (i := 3) (by decide +kernel) rfl (gC (v := (.sl 1 0 x6.length 1 false)) (h' := [some ⟨29, [(eI .i64 o_Value), (.row none 1 (o_Script.map (eI .u8)))]⟩, some ⟨5, x6.map (eI .u8)⟩]) (Vm.Fn.argsLe (zB (ref01_AppendU64_ok N [] (IntKind.u64.wrap o_Value) x6 h_1) []) (V.les_cons V.le_nil (V.les_cons (V.le_refl _ _) V.les_nil))) (fun h => absurd h (by decide)) (fun _ => ⟨_, rfl⟩) (sv (d_call rfl orc1_hit))) ?_
  refine DrawG.pick (n := 3) (i := 4) (by decide +kernel) rfl (gS (v := (.ptr 0 1)) (sv (d_fa rfl (fap29_1 ..)))) <| DrawG.pick (n := 2) (i := 5) (by decide +kernel) rfl (gS (v := (.row none 1 (o_Script.map (eI .u8)))) (sv (d_load rfl (ldP rfl (part1 ti27 rfl rfl))))) ?_
  refine DrawG.pick (n := 1) (i := 6) (by decide +kernel) rfl (gC (v := (.sl 2 0 x9.length 1 false)) (h' := [some ⟨29, [(eI .i64 o_Value), (.row none 1 (o_Script.map (eI .u8)))]⟩, some ⟨5, x6.map (eI .u8)⟩, some ⟨5, x9.map (eI .u8)⟩]) (zL (ref01_AppendBytes_ok N x6 o_Script x9 h_3) [] [1]) (fun h => absurd h (by decide)) (fun _ => ⟨_, rfl⟩) (sv (d_call rfl orc1_hit))) ?_
  refine DrawG.pick (n := 0) (i := 7) (by decide +kernel) rfl (gS (v := (.sl 2 0 x9.length 1 false)) (sv (d_assign rfl))) <| DrawG.nil (by decide +kernel) <| Ex.then_mk <| AB.ret ?_
  obtain rfl := Option.some.inj hr
  exact done_ret (r1 := (.sl 2 0 x9.length 1 false)) (res1 Tryd.results21 (rvT rfl)) (zG [2])
set_option maxRecDepth 20000 in
set_option maxHeartbeats 1000000 in
theorem ref09_encode_ok (N : Nat) (t_Version : Int) (t_Inputs : List S_api_Input) (t_Outputs : List S_api_Output) (t_Lock : Int) (witness : Bool) (r : (List Int)) (hr : ref09_encode N t_Version t_Inputs t_Outputs t_Lock witness = some r) :
    Vm.Fn Tryd.prog 34 [] [(.agg [(eI .u32 t_Version), (.row none 35 (t_Inputs.map E_api_Input)), (.row none 2 (t_Outputs.map E_api_Output)), (eI .u32 t_Lock)]), (eB witness)] (.sl 0 0 r.length 1 false) [some ⟨5, r.map (eI .u8)⟩] := by
  refine fn_ab Tryd.func34 rfl (by kernel_rfl) Tryd.ntmps34 zl rfl (fr := [(0, (.agg [(eI .u32 t_Version), (.row none 35 (t_Inputs.map E_api_Input)), (.row none 2 (t_Outputs.map E_api_Output)), (eI .u32 t_Lock)])), (1, (eB witness))]) rfl ?_
  unfold ref09_encode at hr
  refine zq <| wS (v := (.ptr 0 0)) (h' := [some ⟨26, [(eI .u32 t_Version), (.row none 35 (t_Inputs.map E_api_Input)), (.row none 2 (t_Outputs.map E_api_Output)), (eI .u32 t_Lock)]⟩]) (sv (d_box rfl rfl rfl rfl)) <| wS (v := (.row (some true) 1 [])) (sv (d_assign rfl)) <| zn <| AB.seq ?_
  replace hr := bnd hr; obtain ⟨x16, h_1, hr⟩ := hr
  refine AB.rw <| wS (v := (.ptr 0 0)) (sv (d_fa rfl (fap26_0 ..))) <| wS (v := (eI .u32 t_Version)) (sv (d_load rfl (ldP rfl (part1 ti22 rfl rfl)))) <| wC (v := (.sl 1 0 x16.length 1 false)) (h' := [some ⟨26, [(eI .u32 t_Version), (.row none 35 (t_Inputs.map E_api_Input)), (.row none 2 (t_Outputs.map E_api_Output)), (eI .u32 t_Lock)]⟩, some ⟨5, x16.map (eI .u8)⟩]) rfl (Vm.Fn.argsLe (zB (ref01_AppendU32_ok N [] t_Version x16 h_1) []) (V.les_cons V.le_nil (V.les_cons (V.le_refl _ _) V.les_nil))) <| za rfl <| zn <| AB.seq ?_
  replace hr := bnd hr; obtain ⟨x22, h_2, hr⟩ := hr
  refine AB.rw <| zm rfl <| wS (v := (.ptr 0 1)) (sv (d_fa rfl (fap26_1 ..))) <| wS (v := (.row none 35 (t_Inputs.map E_api_Input))) (sv (d_load rfl (ldP rfl (part1 ti23 rfl rfl)))) <| wS (v := (eI .i64 (t_Inputs.length : Int))) (sv (d_len rfl (lenR ti23))) <| wS (sv (d_conv rfl (conv_int _ ⟨_, ti3⟩ ti65 rfl))) ?_
  refine wC (v := (.sl 2 0 x22.length 1 false)) (h' := [some ⟨26, [(eI .u32 t_Version), (.row none 35 (t_Inputs.map E_api_Input)), (.row none 2 (t_Outputs.map E_api_Output)), (eI .u32 t_Lock)]⟩, some ⟨5, x16.map (eI .u8)⟩, some ⟨5, x22.map (eI .u8)⟩]) rfl (zL (ref01_AppendSize_ok N x16 (IntKind.u64.wrap (t_Inputs.length : Int)) x22 h_2) [] [1]) <| za rfl <| zn ?_
  refine AB.seq_g fun K1 hK1 hG1 => ?_
  have J1 : ∀ (l1 : List Int), ref09_encode_J1 N t_Version t_Inputs t_Outputs t_Lock witness l1 = some r → K1 (mkF 89 [(1, (eB witness)), (2, (.ptr 0 0)), (5, (.sl 1 0 l1.length 1 false))]) [some ⟨26, [(eI .u32 t_Version), (.row none 35 (t_Inputs.map E_api_Input)), (.row none 2 (t_Outputs.map E_api_Output)), (eI .u32 t_Lock)]⟩, some ⟨5, l1.map (eI .u8)⟩] := by
    intro l1 hr
    unfold ref09_encode_J1 at hr
    refine hK1 _ _ <| AB.seq ?_
    replace hr := bnd hr; obtain ⟨x44, h_3, hr⟩ := hr
    refine AB.rw <| zm rfl <| wS (v := (.ptr 0 2)) (sv (d_fa rfl (fap26_2 ..))) <| wS (v := (.row none 2 (t_Outputs.map E_api_Output))) (sv (d_load rfl (ldP rfl (part1 ti24 rfl rfl)))) <| wS (v := (eI .i64 (t_Outputs.length : Int))) (sv (d_len rfl (lenR ti24))) <| wS (sv (d_conv rfl (conv_int _ ⟨_, ti3⟩ ti65 rfl))) ?_
    refine wC (v := (.sl 2 0 x44.length 1 false)) (h' := [some ⟨26, [(eI .u32 t_Version), (.row none 35 (t_Inputs.map E_api_Input)), (.row none 2 (t_Outputs.map E_api_Output)), (eI .u32 t_Lock)]⟩, some ⟨5, l1.map (eI .u8)⟩, some ⟨5, x44.map (eI .u8)⟩]) rfl (zL (ref01_AppendSize_ok N l1 (IntKind.u64.wrap (t_Outputs.length : Int)) x44 h_3) [] [1]) <| za rfl <| zn ?_
    refine AB.seq_g fun K2 hK2 hG2 => ?_
    have J2 : ∀ (l1_1 : List Int), ref09_encode_J2 N t_Version t_Inputs t_Outputs t_Lock witness l1_1 = some r → K2 (mkF 89 [(1, (eB witness)), (2, (.ptr 0 0)), (5, (.sl 1 0 l1_1.length 1 false))]) [some ⟨26, [(eI .u32 t_Version), (.row none 35 (t_Inputs.map E_api_Input)), (.row none 2 (t_Outputs.map E_api_Output)), (eI .u32 t_Lock)]⟩, some ⟨5, l1_1.map (eI .u8)⟩] := by
      intro l1_1 hr
      unfold ref09_encode_J2 at hr
      refine hK2 _ _ <| AB.seq ?_
      replace hr := bnd hr; obtain ⟨x60, h_4, hr⟩ := hr
      refine AB.rw <| zm rfl <| wS (v := (.ptr 0 3)) (sv (d_fa rfl (fap26_3 ..))) <| wS (v := (eI .u32 t_Lock)) (sv (d_load rfl (ldP rfl (part1 ti22 rfl rfl)))) <| wC (v := (.sl 2 0 x60.length 1 false)) (h' := [some ⟨26, [(eI .u32 t_Version), (.row none 35 (t_Inputs.map E_api_Input)), (.row none 2 (t_Outputs.map E_api_Output)), (eI .u32 t_Lock)]⟩, some ⟨5, l1_1.map (eI .u8)⟩, some ⟨5, x60.map (eI .u8)⟩]) rfl (zL (ref01_AppendU32_ok N l1_1 t_Lock x60 h_4) [] [1]) <| za rfl <| zn ?_
      refine AB.seq_g fun K3 hK3 hG3 => ?_
      have J3 : ∀ (l0 : List Int), ref09_encode_J3 N l0 = some r → K3 (mkF 89 [(5, (.sl 0 0 l0.length 1 false))]) [some ⟨5, l0.map (eI .u8)⟩] := by
        intro l0 hr
        unfold ref09_encode_J3 at hr
        refine hK3 _ _ <| zq <| zm rfl <| za rfl <| zn <| AB.ret ?_
        obtain rfl := Option.some.inj hr
        exact done_ret (r1 := (.sl 0 0 l0.length 1 false)) (res1 Tryd.results34 (rvT rfl)) (zG [0])
      refine zq <| wS (v := (.ptr 0 1)) (sv (d_fa rfl (fap26_1 ..))) <| wS (v := (.row none 35 (t_Inputs.map E_api_Input))) (sv (d_load rfl (ldP rfl (part1 ti23 rfl rfl)))) <| wS (v := (eI .i64 (t_Inputs.length : Int))) (sv (d_len rfl (lenR ti23))) <| wS (v := (eI .i64 0)) (sv (d_move rfl)) <| zn ?_
      replace hr := bnd hr; obtain ⟨res4, hL4, hr⟩ := hr
      refine AB.block <| AB.loopN (fun m s h => ∃ (x64 : Int) (l0_1 : List Int), ref09_encode_L4 N t_Inputs witness m x64 l0_1 = some res4 ∧ Ghost 0 s h (mkF 89 [(1, (eB witness)), (5, (.sl 0 0 l0_1.length 1 false)), (62, (.row none 35 (t_Inputs.map E_api_Input))), (63, (eI .i64 (t_Inputs.length : Int))), (64, (eI .i64 x64))]) [some ⟨5, l0_1.map (eI .u8)⟩]) (n := N) ⟨0, x60, hL4, (zG [2])⟩ (by rintro s h ⟨_, _, h0, _⟩; simp [ref09_encode_L4] at h0) ?_
      rintro m4 s h ⟨x64, l0_1, hr4, hg⟩
      refine AB.ghost hg ?_
      clear hg hL4
      rw [ref09_encode_L4] at hr4
      refine zq <| wS (sv (d_bin rfl rfl (bin_lss ..))) <| zn <| AB.seq ?_
      refine AB.cnd rfl (fun h5 => ?_) (fun h5 => ?_)
      · replace hr4 := iteT hr4 h5
        refine AB.skip <| Ex.then_mk ?_
        refine AB.seq_g fun K5 hK5 hG5 => ?_
        have J5 : ∀ (l0_2 : List Int), ref09_encode_J5 N t_Inputs witness x64 (ref09_encode_L4 N t_Inputs witness m4) l0_2 = some res4 → K5 (mkF 89 [(1, (eB witness)), (5, (.sl 0 0 l0_2.length 1 false)), (62, (.row none 35 (t_Inputs.map E_api_Input))), (63, (eI .i64 (t_Inputs.length : Int))), (64, (eI .i64 x64))]) [some ⟨5, l0_2.map (eI .u8)⟩] := by
          intro l0_2 hr4
          unfold ref09_encode_J5 at hr4
          refine hK5 _ _ <| AB.rw <| wS (v := (eI .i64 (IntKind.i64.wrap (x64 + 1)))) (sv (d_bin rfl rfl (bin_add ..))) <| zm rfl <| zn ?_
          exact ⟨IntKind.i64.wrap (x64 + 1), l0_2, hr4, (zG [0])⟩
        refine AB.block <| AB.seq ?_
        replace hr4 := bnd hr4; obtain ⟨x66, h_6, hr4⟩ := hr4
        refine AB.rw <| wS (sv (d_ia rfl rfl (iaR ti23 ti42 h_6))) <| wS (v := (E_api_Input x66)) (sv (d_load rfl (ldR h_6 (partN (ds := (ar32 (eI .u8) x66.Prev.Tx [(eI .u32 x66.Prev.Index), (eI .u32 x66.Sequence), (.row none 1 (x66.Witness.map (eL 1 (eI .u8))))])) ti42 rfl zl rfl)))) <| wS (v := (.ptr 1 0)) (h' := [some ⟨5, l0_1.map (eI .u8)⟩, some ⟨42, (ar32 (eI .u8) (List.replicate 32 0) [(eI .u32 0), (eI .u32 0), (.row (some true) 1 [])])⟩]) (sv (d_alloc ti42 rfl rfl rfl)) <| wN (h' := [some ⟨5, l0_1.map (eI .u8)⟩, some ⟨42, C_api_Input x66⟩]) (sv (d_store rfl rfl (stP ti42 rfl rfl rfl zl rfl))) <| zn ?_
        refine AB.seq <| zq <| zm rfl <| wS (sv (d_un rfl (un_not _ _))) <| zn ?_
        refine AB.cnd rfl (fun h7 => ?_) (fun h7 => ?_)
        · replace hr4 := iteT hr4 h7
          refine AB.exit <| Ex.then_exit_mk <| Ex.inBlock_other_mk rfl <| Ex.then_exit_mk <| Ex.then_exit_mk <| Ex.inBlock_same_mk ?_
          obtain rfl := Option.some.inj hr4
          refine Ex.then_mk ?_
          exact hG3 _ _ _ _ (zG [0]) (J3 l0_1 hr)
        · replace hr4 := iteF hr4 h7
          refine AB.skip <| Ex.then_mk <| AB.seq ?_
          replace hr4 := bnd hr4; obtain ⟨x75, h_8, hr4⟩ := hr4
          refine AB.rw <| zm rfl <| wS (v := (.ptr 1 34)) (sv (d_fa rfl (fap42_2 ..))) <| wS (v := (.row none 1 (x66.Witness.map (eL 1 (eI .u8))))) (sv (d_load rfl (ldP rfl (part1 ti40 rfl rfl)))) <| wS (v := (eI .i64 (x66.Witness.length : Int))) (sv (d_len rfl (lenR ti40))) <| wS (sv (d_conv rfl (conv_int _ ⟨_, ti3⟩ ti65 rfl))) <| wC (v := (.sl 2 0 x75.length 1 false)) (h' := [some ⟨5, l0_1.map (eI .u8)⟩, some ⟨42, C_api_Input x66⟩, some ⟨5, x75.map (eI .u8)⟩]) rfl (zL (ref01_AppendSize_ok N l0_1 (IntKind.u64.wrap (x66.Witness.length : Int)) x75 h_8) [] [0]) <| za rfl <| zn <| zq ?_
          refine wS (v := (.ptr 1 34)) (sv (d_fa rfl (fap42_2 ..))) <| wS (v := (.row none 1 (x66.Witness.map (eL 1 (eI .u8))))) (sv (d_load rfl (ldP rfl (part1 ti40 rfl rfl)))) <| wS (v := (eI .i64 (x66.Witness.length : Int))) (sv (d_len rfl (lenR ti40))) <| wS (v := (eI .i64 0)) (sv (d_move rfl)) <| zn ?_
          replace hr4 := bnd hr4; obtain ⟨res6, hL6, hr4⟩ := hr4
          refine AB.block <| AB.loopN (fun m s h => ∃ (x79 : Int) (l0_3 : List Int), ref09_encode_L6 N t_Inputs witness x64 x66 m x79 l0_3 = some res6 ∧ Ghost 0 s h (mkF 89 [(1, (eB witness)), (5, (.sl 0 0 l0_3.length 1 false)), (62, (.row none 35 (t_Inputs.map E_api_Input))), (63, (eI .i64 (t_Inputs.length : Int))), (64, (eI .i64 x64)), (77, (.row none 1 (x66.Witness.map (eL 1 (eI .u8))))), (78, (eI .i64 (x66.Witness.length : Int))), (79, (eI .i64 x79))]) [some ⟨5, l0_3.map (eI .u8)⟩]) (n := N) ⟨0, x75, hL6, (zG [2])⟩ (by rintro s h ⟨_, _, h0, _⟩; simp [ref09_encode_L6] at h0) ?_
          rintro m6 s h ⟨x79, l0_3, hr6, hg⟩
          refine AB.ghost hg ?_
          clear hg hL6
          rw [ref09_encode_L6] at hr6
          refine zq <| wS (sv (d_bin rfl rfl (bin_lss ..))) <| zn <| AB.seq ?_
          refine AB.cnd rfl (fun h9 => ?_) (fun h9 => ?_)
          · replace hr6 := iteT hr6 h9
            refine AB.skip <| Ex.then_mk <| AB.seq <| AB.block <| AB.seq ?_
            replace hr6 := bnd hr6; obtain ⟨x81, h_10, hr6⟩ := hr6
            refine AB.rw <| wS (sv (d_ia rfl rfl (iaR ti40 ti27 h_10))) <| wS (v := (.row none 1 (x81.map (eI .u8)))) (sv (d_load rfl (ldR h_10 (part1 ti27 rfl rfl)))) <| za rfl <| zn ?_
            replace hr6 := bnd hr6; obtain ⟨x85, h_11, hr6⟩ := hr6
            refine AB.rw <| zm rfl <| zm rfl <| wC (v := (.sl 1 0 x85.length 1 false)) (h' := [some ⟨5, l0_3.map (eI .u8)⟩, some ⟨5, x85.map (eI .u8)⟩]) rfl (zL (ref01_AppendBytes_ok N l0_3 x81 x85 h_11) [] [0]) <| za rfl <| OpsW.nil <| Ex.inBlock_mk <| Ex.then_mk <| AB.rw <| wS (v := (eI .i64 (IntKind.i64.wrap (x79 + 1)))) (sv (d_bin rfl rfl (bin_add ..))) <| zm rfl <| zn ?_
            exact ⟨IntKind.i64.wrap (x79 + 1), x85, hr6, (zG [1])⟩
          · replace hr6 := iteF hr6 h9
            refine AB.exit <| Ex.then_exit_mk <| Ex.then_exit_mk <| Ex.inBlock_same_mk ?_
            obtain rfl := Option.some.inj hr6
            refine Ex.inBlock_mk <| Ex.then_mk ?_
            exact hG5 _ _ _ _ (zG [0]) (J5 l0_3 hr4)
      · replace hr4 := iteF hr4 h5
        refine AB.exit <| Ex.then_exit_mk <| Ex.then_exit_mk <| Ex.inBlock_same_mk ?_
        obtain rfl := Option.some.inj hr4
        refine Ex.then_mk ?_
        exact hG3 _ _ _ _ (zG [0]) (J3 l0_1 hr)
    refine zq <| wS (v := (.ptr 0 2)) (sv (d_fa rfl (fap26_2 ..))) <| wS (v := (.row none 2 (t_Outputs.map E_api_Output))) (sv (d_load rfl (ldP rfl (part1 ti24 rfl rfl)))) <| wS (v := (eI .i64 (t_Outputs.length : Int))) (sv (d_len rfl (lenR ti24))) <| wS (v := (eI .i64 0)) (sv (d_move rfl)) <| zn ?_
    replace hr := bnd hr; obtain ⟨res7, hL7, hr⟩ := hr
    refine AB.block ?_
    refine AB.loopN (fun m s h => ∃ (x48 : Int) (l1_2 : List Int), ref09_encode_L7 N t_Version t_Inputs t_Outputs t_Lock witness m x48 l1_2 = some res7 ∧ Ghost 0 s h (mkF 89 [(1, (eB witness)), (2, (.ptr 0 0)), (5, (.sl 1 0 l1_2.length 1 false)), (46, (.row none 2 (t_Outputs.map E_api_Output))), (47, (eI .i64 (t_Outputs.length : Int))), (48, (eI .i64 x48))]) [some ⟨26, [(eI .u32 t_Version), (.row none 35 (t_Inputs.map E_api_Input)), (.row none 2 (t_Outputs.map E_api_Output)), (eI .u32 t_Lock)]⟩, some ⟨5, l1_2.map (eI .u8)⟩]) (n := N) ⟨0, x44, hL7, (zG [0, 2])⟩ (by rintro s h ⟨_, _, h0, _⟩; simp [ref09_encode_L7] at h0) ?_
    rintro m7 s h ⟨x48, l1_2, hr7, hg⟩
    refine AB.ghost hg ?_
    clear hg hL7
    rw [ref09_encode_L7] at hr7
    refine zq <| wS (sv (d_bin rfl rfl (bin_lss ..))) <| zn <| AB.seq ?_
    refine AB.cnd rfl (fun h12 => ?_) (fun h12 => ?_)
    · replace hr7 := iteT hr7 h12
      refine AB.skip <| Ex.then_mk <| AB.seq <| AB.block <| AB.seq ?_
      replace hr7 := bnd hr7; obtain ⟨x50, h_13, hr7⟩ := hr7
      refine AB.rw <| wS (sv (d_ia rfl rfl (iaR ti24 ti29 h_13))) <| wS (v := (.agg [(eI .i64 x50.Value), (.row none 1 (x50.Script.map (eI .u8)))])) (sv (d_load rfl (ldR h_13 (partN (ds := [(eI .i64 x50.Value), (.row none 1 (x50.Script.map (eI .u8)))]) ti29 rfl zl rfl)))) <| wS (v := (.ptr 2 0)) (h' := [some ⟨26, [(eI .u32 t_Version), (.row none 35 (t_Inputs.map E_api_Input)), (.row none 2 (t_Outputs.map E_api_Output)), (eI .u32 t_Lock)]⟩, some ⟨5, l1_2.map (eI .u8)⟩, some ⟨29, [(eI .i64 0), (.row (some true) 1 [])]⟩]) (sv (d_alloc ti29 rfl rfl rfl)) ?_
      refine wN (h' := [some ⟨26, [(eI .u32 t_Version), (.row none 35 (t_Inputs.map E_api_Input)), (.row none 2 (t_Outputs.map E_api_Output)), (eI .u32 t_Lock)]⟩, some ⟨5, l1_2.map (eI .u8)⟩, some ⟨29, [(eI .i64 x50.Value), (.row none 1 (x50.Script.map (eI .u8)))]⟩]) (sv (d_store rfl rfl (stP ti29 rfl rfl rfl zl rfl))) <| zn ?_
      replace hr7 := bnd hr7; obtain ⟨x54, h_14, hr7⟩ := hr7
      replace hr7 := bnd hr7; obtain ⟨x55, h_15, hr7⟩ := hr7
      refine AB.rw <| zm rfl <| wS (v := (.agg [(eI .i64 x50.Value), (.row none 1 (x50.Script.map (eI .u8)))])) (sv (d_load rfl (ldP rfl (partN (ds := [(eI .i64 x50.Value), (.row none 1 (x50.Script.map (eI .u8)))]) ti29 rfl zl rfl)))) ?_
      refine wC (v := (.sl 3 0 x54.length 1 false)) (h' := [some ⟨26, [(eI .u32 t_Version), (.row none 35 (t_Inputs.map E_api_Input)), (.row none 2 (t_Outputs.map E_api_Output)), (eI .u32 t_Lock)]⟩, some ⟨5, l1_2.map (eI .u8)⟩, some ⟨29, [(eI .i64 x50.Value), (.row none 1 (x50.Script.map (eI .u8)))]⟩, some ⟨5, x54.map (eI .u8)⟩]) rfl (zB (ref09_Out_ok N x50.Value x50.Script x54 h_14) []) ?_
      refine wS (v := (.sl 4 0 x55.length 1 false)) (h' := [some ⟨26, [(eI .u32 t_Version), (.row none 35 (t_Inputs.map E_api_Input)), (.row none 2 (t_Outputs.map E_api_Output)), (eI .u32 t_Lock)]⟩, none, some ⟨29, [(eI .i64 x50.Value), (.row none 1 (x50.Script.map (eI .u8)))]⟩, some ⟨5, x54.map (eI .u8)⟩, some ⟨5, x55.map (eI .u8)⟩]) (sv (d_append rfl rfl (appS (E := (eI .u8)) rfl ti27 ti5 ⟨rfl, rfl, zl⟩ rfl (srcS rfl rfl) h_15 rfl rfl))) <| za rfl <| OpsW.nil <| Ex.inBlock_mk <| Ex.then_mk <| AB.rw <| wS (v := (eI .i64 (IntKind.i64.wrap (x48 + 1)))) (sv (d_bin rfl rfl (bin_add ..))) <| zm rfl <| zn ?_
      exact ⟨IntKind.i64.wrap (x48 + 1), x55, hr7, (zG [0, 4])⟩
    · replace hr7 := iteF hr7 h12
      refine AB.exit <| Ex.then_exit_mk <| Ex.then_exit_mk <| Ex.inBlock_same_mk ?_
      obtain rfl := Option.some.inj hr7
      refine Ex.then_mk ?_
      exact hG2 _ _ _ _ (zG [0, 1]) (J2 l1_2 hr)
  refine zq <| wS (v := (.ptr 0 1)) (sv (d_fa rfl (fap26_1 ..))) <| wS (v := (.row none 35 (t_Inputs.map E_api_Input))) (sv (d_load rfl (ldP rfl (part1 ti23 rfl rfl)))) <| wS (v := (eI .i64 (t_Inputs.length : Int))) (sv (d_len rfl (lenR ti23))) <| wS (v := (eI .i64 0)) (sv (d_move rfl)) <| zn ?_
  replace hr := bnd hr; obtain ⟨res8, hL8, hr⟩ := hr
  refine AB.block ?_
  refine AB.loopN (fun m s h => ∃ (x26 : Int) (l1_3 : List Int), ref09_encode_L8 N t_Version t_Inputs t_Outputs t_Lock witness m x26 l1_3 = some res8 ∧ Ghost 0 s h (mkF 89 [(1, (eB witness)), (2, (.ptr 0 0)), (5, (.sl 1 0 l1_3.length 1 false)), (24, (.row none 35 (t_Inputs.map E_api_Input))), (25, (eI .i64 (t_Inputs.length : Int))), (26, (eI .i64 x26))]) [some ⟨26, [(eI .u32 t_Version), (.row none 35 (t_Inputs.map E_api_Input)), (.row none 2 (t_Outputs.map E_api_Output)), (eI .u32 t_Lock)]⟩, some ⟨5, l1_3.map (eI .u8)⟩]) (n := N) ⟨0, x22, hL8, (zG [0, 2])⟩ (by rintro s h ⟨_, _, h0, _⟩; simp [ref09_encode_L8] at h0) ?_
  rintro m8 s h ⟨x26, l1_3, hr8, hg⟩
  refine AB.ghost hg ?_
  clear hg hL8
  rw [ref09_encode_L8] at hr8
  refine zq <| wS (sv (d_bin rfl rfl (bin_lss ..))) <| zn <| AB.seq ?_
  refine AB.cnd rfl (fun h16 => ?_) (fun h16 => ?_)
  · replace hr8 := iteT hr8 h16
    refine AB.skip <| Ex.then_mk ?_
    refine AB.seq_g fun K9 hK9 hG9 => ?_
    have J9 : ∀ (l1_4 : List Int), ref09_encode_J9 N t_Version t_Inputs t_Outputs t_Lock witness x26 (ref09_encode_L8 N t_Version t_Inputs t_Outputs t_Lock witness m8) l1_4 = some res8 → K9 (mkF 89 [(1, (eB witness)), (2, (.ptr 0 0)), (5, (.sl 1 0 l1_4.length 1 false)), (24, (.row none 35 (t_Inputs.map E_api_Input))), (25, (eI .i64 (t_Inputs.length : Int))), (26, (eI .i64 x26))]) [some ⟨26, [(eI .u32 t_Version), (.row none 35 (t_Inputs.map E_api_Input)), (.row none 2 (t_Outputs.map E_api_Output)), (eI .u32 t_Lock)]⟩, some ⟨5, l1_4.map (eI .u8)⟩] := by
      intro l1_4 hr8
      unfold ref09_encode_J9 at hr8
      refine hK9 _ _ <| AB.rw <| wS (v := (eI .i64 (IntKind.i64.wrap (x26 + 1)))) (sv (d_bin rfl rfl (bin_add ..))) <| zm rfl <| zn ?_
      exact ⟨IntKind.i64.wrap (x26 + 1), l1_4, hr8, (zG [0, 1])⟩
    refine AB.block <| AB.seq ?_
    replace hr8 := bnd hr8; obtain ⟨x28, h_17, hr8⟩ := hr8
    refine AB.rw <| wS (sv (d_ia rfl rfl (iaR ti23 ti42 h_17))) <| wS (v := (E_api_Input x28)) (sv (d_load rfl (ldR h_17 (partN (ds := (ar32 (eI .u8) x28.Prev.Tx [(eI .u32 x28.Prev.Index), (eI .u32 x28.Sequence), (.row none 1 (x28.Witness.map (eL 1 (eI .u8))))])) ti42 rfl zl rfl)))) ?_
    refine wS (v := (.ptr 2 0)) (h' := [some ⟨26, [(eI .u32 t_Version), (.row none 35 (t_Inputs.map E_api_Input)), (.row none 2 (t_Outputs.map E_api_Output)), (eI .u32 t_Lock)]⟩, some ⟨5, l1_3.map (eI .u8)⟩, some ⟨42, (ar32 (eI .u8) (List.replicate 32 0) [(eI .u32 0), (eI .u32 0), (.row (some true) 1 [])])⟩]) (sv (d_alloc ti42 rfl rfl rfl)) <| wN (h' := [some ⟨26, [(eI .u32 t_Version), (.row none 35 (t_Inputs.map E_api_Input)), (.row none 2 (t_Outputs.map E_api_Output)), (eI .u32 t_Lock)]⟩, some ⟨5, l1_3.map (eI .u8)⟩, some ⟨42, C_api_Input x28⟩]) (sv (d_store rfl rfl (stP ti42 rfl rfl rfl zl rfl))) ?_
    refine zn ?_
    replace hr8 := bnd hr8; obtain ⟨x33, h_18, hr8⟩ := hr8
    replace hr8 := bnd hr8; obtain ⟨x34, h_20, hr8⟩ := hr8
    replace hr8 := bnd hr8; obtain ⟨x37, h_21, hr8⟩ := hr8
    refine AB.rd (memF []) (memF [19, 20]) mixed <| DrawG.pick (n := 8) (i := 0) (by decide +kernel) rfl (gS (v := (.sl 1 0 l1_3.length 1 false)) (sv (d_move rfl))) <| DrawG.pick (n := 7) (i := 1) (by decide +kernel) rfl (gS (v := (.ptr 2 0)) (sv (d_fa rfl (fap42_0 ..)))) <| DrawG.pick (n := 6) (i := 2) (by decide +kernel) rfl (gS (v := (E_api_OutPoint x28.Prev)) (sv (d_load rfl (ldP rfl (partN (ds := (ar32 (eI .u8) x28.Prev.Tx [(eI .u32 x28.Prev.Index)])) ti39 rfl zl rfl))))) ?_
    refine DrawG.pick (n := 5) (i := 3) (by decide +kernel) rfl (gC (v := (.sl 3 0 x33.length 1 false)) (h' := [some ⟨26, [(eI .u32 t_Version), (.row none 35 (t_Inputs.map E_api_Input)), (.row none 2 (t_Outputs.map E_api_Output)), (eI .u32 t_Lock)]⟩, some ⟨5, l1_3.map (eI .u8)⟩, some ⟨42, C_api_Input x28⟩, some ⟨5, x33.map (eI .u8)⟩]) (zB (ref09_Point_ok N x28.Prev.Tx x28.Prev.Index x33 h_18) []) (fun h => absurd h (by decide)) (fun _ => ⟨_, rfl⟩) (sv (d_call rfl orc1_hit))) ?_
    refine DrawG.fork (n := 4) [4, 5] (by decide +kernel) (by decide) ?_
    refine (Fork.cons rfl (gS (v := (.sl 4 0 x34.length 1 false)) (h' := [some ⟨26, [(eI .u32 t_Version), (.row none 35 (t_Inputs.map E_api_Input)), (.row none 2 (t_Outputs.map E_api_Output)), (eI .u32 t_Lock)]⟩, none, some ⟨42, C_api_Input x28⟩, some ⟨5, x33.map (eI .u8)⟩, some ⟨5, x34.map (eI .u8)⟩]) (sv (d_append rfl rfl (appS (E := (eI .u8)) rfl ti27 ti5 ⟨rfl, rfl, zl⟩ rfl (srcS rfl rfl) h_20 rfl rfl)))) ?_ (Fork.cons rfl (gS (v := (.ptr 2 33)) (sv (d_fa rfl (fap42_1 ..)))) ?_ Fork.nil))
    · refine DrawG.pick (n := 3) (i := 5) (by decide +kernel) rfl (gS (v := (.ptr 2 33)) (sv (d_fa rfl (fap42_1 ..)))) <| DrawG.pick (n := 2) (i := 6) (by decide +kernel) rfl (gS (v := (eI .u32 x28.Sequence)) (sv (d_load rfl (ldP rfl (part1 ti22 rfl rfl))))) ?_
      refine DrawG.pick (n := 1) (i := 7) (by decide +kernel) rfl (gC (v := (.sl 5 0 x37.length 1 false)) (h' := [some ⟨26, [(eI .u32 t_Version), (.row none 35 (t_Inputs.map E_api_Input)), (.row none 2 (t_Outputs.map E_api_Output)), (eI .u32 t_Lock)]⟩, none, some ⟨42, C_api_Input x28⟩, some ⟨5, x33.map (eI .u8)⟩, some ⟨5, x34.map (eI .u8)⟩, some ⟨5, x37.map (eI .u8)⟩]) (zL (ref01_AppendU32_ok N x34 x28.Sequence x37 h_21) [] [4]) (fun h => absurd h (by decide)) (fun _ => ⟨_, rfl⟩) (sv (d_call rfl orc1_hit))) ?_
      refine DrawG.pick (n := 0) (i := 8) (by decide +kernel) rfl (gS (v := (.sl 5 0 x37.length 1 false)) (sv (d_assign rfl))) <| DrawG.nil (by decide +kernel) <| Ex.inBlock_mk <| Ex.then_mk ?_
      exact hG9 _ _ _ _ (zG [0, 5]) (J9 x37 hr8)
    · refine DrawG.fork (n := 3) [4, 6] (by decide +kernel) (by decide) ?_
      refine (Fork.cons rfl (gS (v := (.sl 4 0 x34.length 1 false)) (h' := [some ⟨26, [(eI .u32 t_Version), (.row none 35 (t_Inputs.map E_api_Input)), (.row none 2 (t_Outputs.map E_api_Output)), (eI .u32 t_Lock)]⟩, none, some ⟨42, C_api_Input x28⟩, some ⟨5, x33.map (eI .u8)⟩, some ⟨5, x34.map (eI .u8)⟩]) (sv (d_append rfl rfl (appS (E := (eI .u8)) rfl ti27 ti5 ⟨rfl, rfl, zl⟩ rfl (srcS rfl rfl) h_20 rfl rfl)))) ?_ (Fork.cons rfl (gS (v := (eI .u32 x28.Sequence)) (sv (d_load rfl (ldP rfl (part1 ti22 rfl rfl))))) ?_ Fork.nil))
      · refine DrawG.pick (n := 2) (i := 6) (by decide +kernel) rfl (gS (v := (eI .u32 x28.Sequence)) (sv (d_load rfl (ldP rfl (part1 ti22 rfl rfl))))) ?_
        refine DrawG.pick (n := 1) (i := 7) (by decide +kernel) rfl (gC (v := (.sl 5 0 x37.length 1 false)) (h' := [some ⟨26, [(eI .u32 t_Version), (.row none 35 (t_Inputs.map E_api_Input)), (.row none 2 (t_Outputs.map E_api_Output)), (eI .u32 t_Lock)]⟩, none, some ⟨42, C_api_Input x28⟩, some ⟨5, x33.map (eI .u8)⟩, some ⟨5, x34.map (eI .u8)⟩, some ⟨5, x37.map (eI .u8)⟩]) (zL (ref01_AppendU32_ok N x34 x28.Sequence x37 h_21) [] [4]) (fun h => absurd h (by decide)) (fun _ => ⟨_, rfl⟩) (sv (d_call rfl orc1_hit))) ?_
        refine DrawG.pick (n := 0) (i := 8) (by decide +kernel) rfl (gS (v := (.sl 5 0 x37.length 1 false)) (sv (d_assign rfl))) <| DrawG.nil (by decide +kernel) <| Ex.inBlock_mk <| Ex.then_mk ?_
        exact hG9 _ _ _ _ (zG [0, 5]) (J9 x37 hr8)
      · refine DrawG.pick (n := 2) (i := 4) (by decide +kernel) rfl (gS (v := (.sl 4 0 x34.length 1 false)) (h' := [some ⟨26, [(eI .u32 t_Version), (.row none 35 (t_Inputs.map E_api_Input)), (.row none 2 (t_Outputs.map E_api_Output)), (eI .u32 t_Lock)]⟩, none, some ⟨42, C_api_Input x28⟩, some ⟨5, x33.map (eI .u8)⟩, some ⟨5, x34.map (eI .u8)⟩]) (sv (d_append rfl rfl (appS (E := (eI .u8)) rfl ti27 ti5 ⟨rfl, rfl, zl⟩ rfl (srcS rfl rfl) h_20 rfl rfl)))) ?_
        refine DrawG.pick (n := 1) (i := 7) (by decide +kernel) rfl (gC (v := (.sl 5 0 x37.length 1 false)) (h' := [some ⟨26, [(eI .u32 t_Version), (.row none 35 (t_Inputs.map E_api_Input)), (.row none 2 (t_Outputs.map E_api_Output)), (eI .u32 t_Lock)]⟩, none, some ⟨42, C_api_Input x28⟩, some ⟨5, x33.map (eI .u8)⟩, some ⟨5, x34.map (eI .u8)⟩, some ⟨5, x37.map (eI .u8)⟩]) (zL (ref01_AppendU32_ok N x34 x28.Sequence x37 h_21) [] [4]) (fun h => absurd h (by decide)) (fun _ => ⟨_, rfl⟩) (sv (d_call rfl orc1_hit))) ?_
        refine DrawG.pick (n := 0) (i := 8) (by decide +kernel) rfl (gS (v := (.sl 5 0 x37.length 1 false)) (sv (d_assign rfl))) <| DrawG.nil (by decide +kernel) <| Ex.inBlock_mk <| Ex.then_mk ?_
        exact hG9 _ _ _ _ (zG [0, 5]) (J9 x37 hr8)
  · replace hr8 := iteF hr8 h16
    refine AB.exit <| Ex.then_exit_mk <| Ex.then_exit_mk <| Ex.inBlock_same_mk ?_
    obtain rfl := Option.some.inj hr8
    refine Ex.then_mk ?_
    exact hG1 _ _ _ _ (zG [0, 1]) (J1 l1_3 hr)
set_option maxRecDepth 20000 in
set_option maxHeartbeats 1000000 in
theorem ref09_Fits_ok (N : Nat) (t_Version : Int) (t_Inputs : List S_api_Input) (t_Outputs : List S_api_Output) (t_Lock : Int) (r : Bool) (hr : ref09_Fits N t_Version t_Inputs t_Outputs t_Lock = some r) :
    Vm.Fn Tryd.prog 18 [] [(.agg [(eI .u32 t_Version), (.row none 35 (t_Inputs.map E_api_Input)), (.row none 2 (t_Outputs.map E_api_Output)), (eI .u32 t_Lock)])] (eB r) [] := by
  refine fn_ab Tryd.func18 rfl (by kernel_rfl) Tryd.ntmps18 zl rfl (fr := [(0, (.agg [(eI .u32 t_Version), (.row none 35 (t_Inputs.map E_api_Input)), (.row none 2 (t_Outputs.map E_api_Output)), (eI .u32 t_Lock)]))]) rfl ?_
  unfold ref09_Fits at hr
  refine zq <| wS (v := (.ptr 0 0)) (h' := [some ⟨26, [(eI .u32 t_Version), (.row none 35 (t_Inputs.map E_api_Input)), (.row none 2 (t_Outputs.map E_api_Output)), (eI .u32 t_Lock)]⟩]) (sv (d_box rfl rfl rfl rfl)) <| wS (v := (eB false)) (sv (d_assign rfl)) <| zn <| AB.seq ?_
  refine AB.seq_g fun K1 hK1 hG1 => ?_
  have J1 : ∀ (x18 : Bool), ref09_Fits_J1 N t_Version t_Inputs t_Outputs t_Lock x18 = some r → K1 (mkF 63 [(1, (.ptr 0 0)), (18, (eB x18))]) [some ⟨26, [(eI .u32 t_Version), (.row none 35 (t_Inputs.map E_api_Input)), (.row none 2 (t_Outputs.map E_api_Output)), (eI .u32 t_Lock)]⟩] := by
    intro x18 hr
    unfold ref09_Fits_J1 at hr
    refine hK1 _ _ ?_
    refine AB.cnd rfl (fun h1 => ?_) (fun h1 => ?_)
    · replace hr := iteT hr h1
      refine zq <| wS (v := (eB false)) (sv (d_assign rfl)) <| zn <| AB.ret <| Ex.then_ret_mk ?_
      obtain rfl := Option.some.inj hr
      exact done_ret (r1 := (eB false)) (res1 Tryd.results18 (rvT rfl)) (zG [])
    · replace hr := iteF hr h1
      refine AB.skip <| Ex.then_mk ?_
      refine AB.seq_g fun K2 hK2 hG2 => ?_
      have J2 : ref09_Fits_J2 N t_Version t_Inputs t_Outputs t_Lock = some r → K2 (mkF 63 [(1, (.ptr 0 0))]) [some ⟨26, [(eI .u32 t_Version), (.row none 35 (t_Inputs.map E_api_Input)), (.row none 2 (t_Outputs.map E_api_Output)), (eI .u32 t_Lock)]⟩] := by
        intro hr
        unfold ref09_Fits_J2 at hr
        refine hK2 _ _ ?_
        refine AB.seq_g fun K3 hK3 hG3 => ?_
        have J3 : ref09_Fits_J3 N t_Version t_Inputs t_Outputs t_Lock = some r → K3 (mkF 63 [(1, (.ptr 0 0))]) [some ⟨26, [(eI .u32 t_Version), (.row none 35 (t_Inputs.map E_api_Input)), (.row none 2 (t_Outputs.map E_api_Output)), (eI .u32 t_Lock)]⟩] := by
          intro hr
          unfold ref09_Fits_J3 at hr
          refine hK3 _ _ <| AB.seq ?_
          replace hr := bnd hr; obtain ⟨x60, h_2, hr⟩ := hr
          refine AB.rw <| wS (v := (.agg [(eI .u32 t_Version), (.row none 35 (t_Inputs.map E_api_Input)), (.row none 2 (t_Outputs.map E_api_Output)), (eI .u32 t_Lock)])) (sv (d_load rfl (ldP rfl (partN (ds := [(eI .u32 t_Version), (.row none 35 (t_Inputs.map E_api_Input)), (.row none 2 (t_Outputs.map E_api_Output)), (eI .u32 t_Lock)]) ti26 rfl zl rfl)))) ?_
          refine wC (v := (.sl 1 0 x60.length 1 false)) (h' := [some ⟨26, [(eI .u32 t_Version), (.row none 35 (t_Inputs.map E_api_Input)), (.row none 2 (t_Outputs.map E_api_Output)), (eI .u32 t_Lock)]⟩, some ⟨5, x60.map (eI .u8)⟩]) rfl (zB (ref09_encode_ok N t_Version t_Inputs t_Outputs t_Lock true x60 h_2) []) <| wS (v := (eI .i64 (x60.length : Int))) (sv (d_len rfl (lenS ti27))) <| wS (v := (eB (decide ((x60.length : Int) ≤ 20000)))) (sv (d_bin rfl rfl (bin_leq ..))) <| za rfl <| zn <| AB.ret ?_
          obtain rfl := Option.some.inj hr
          exact done_ret (r1 := (eB (decide ((x60.length : Int) ≤ 20000)))) (res1 Tryd.results18 (rvT rfl)) (zG [])
        refine zq <| wS (v := (.ptr 0 1)) (sv (d_fa rfl (fap26_1 ..))) <| wS (v := (.row none 35 (t_Inputs.map E_api_Input))) (sv (d_load rfl (ldP rfl (part1 ti23 rfl rfl)))) <| wS (v := (eI .i64 (t_Inputs.length : Int))) (sv (d_len rfl (lenR ti23))) <| wS (v := (eI .i64 0)) (sv (d_move rfl)) <| zn ?_
        replace hr := bnd hr; obtain ⟨res4, hL4, hr⟩ := hr
        refine AB.block <| AB.loopN (fun m s h => ∃ (x39 : Int), ref09_Fits_L4 N t_Version t_Inputs t_Outputs t_Lock m x39 = some res4 ∧ Ghost 0 s h (mkF 63 [(1, (.ptr 0 0)), (37, (.row none 35 (t_Inputs.map E_api_Input))), (38, (eI .i64 (t_Inputs.length : Int))), (39, (eI .i64 x39))]) [some ⟨26, [(eI .u32 t_Version), (.row none 35 (t_Inputs.map E_api_Input)), (.row none 2 (t_Outputs.map E_api_Output)), (eI .u32 t_Lock)]⟩]) (n := N) ⟨0, hL4, (zG [0])⟩ (by rintro s h ⟨_, h0, _⟩; simp [ref09_Fits_L4] at h0) ?_
        rintro m4 s h ⟨x39, hr4, hg⟩
        refine AB.ghost hg ?_
        clear hg hL4
        rw [ref09_Fits_L4] at hr4
        refine zq <| wS (sv (d_bin rfl rfl (bin_lss ..))) <| zn <| AB.seq ?_
        refine AB.cnd rfl (fun h3 => ?_) (fun h3 => ?_)
        · replace hr4 := iteT hr4 h3
          refine AB.skip <| Ex.then_mk ?_
          refine AB.seq_g fun K5 hK5 hG5 => ?_
          have J5 : ref09_Fits_J5 N t_Version t_Inputs t_Outputs t_Lock x39 (ref09_Fits_L4 N t_Version t_Inputs t_Outputs t_Lock m4) = some res4 → K5 (mkF 63 [(1, (.ptr 0 0)), (37, (.row none 35 (t_Inputs.map E_api_Input))), (38, (eI .i64 (t_Inputs.length : Int))), (39, (eI .i64 x39))]) [some ⟨26, [(eI .u32 t_Version), (.row none 35 (t_Inputs.map E_api_Input)), (.row none 2 (t_Outputs.map E_api_Output)), (eI .u32 t_Lock)]⟩] := by
            intro hr4
            unfold ref09_Fits_J5 at hr4
            refine hK5 _ _ <| AB.rw <| wS (v := (eI .i64 (IntKind.i64.wrap (x39 + 1)))) (sv (d_bin rfl rfl (bin_add ..))) <| zm rfl <| zn ?_
            exact ⟨IntKind.i64.wrap (x39 + 1), hr4, (zG [0])⟩
          refine AB.block <| AB.seq ?_
          replace hr4 := bnd hr4; obtain ⟨x41, h_4, hr4⟩ := hr4
          refine AB.rw <| wS (sv (d_ia rfl rfl (iaR ti23 ti42 h_4))) <| wS (v := (E_api_Input x41)) (sv (d_load rfl (ldR h_4 (partN (ds := (ar32 (eI .u8) x41.Prev.Tx [(eI .u32 x41.Prev.Index), (eI .u32 x41.Sequence), (.row none 1 (x41.Witness.map (eL 1 (eI .u8))))])) ti42 rfl zl rfl)))) <| wS (v := (.ptr 1 0)) (h' := [some ⟨26, [(eI .u32 t_Version), (.row none 35 (t_Inputs.map E_api_Input)), (.row none 2 (t_Outputs.map E_api_Output)), (eI .u32 t_Lock)]⟩, some ⟨42, (ar32 (eI .u8) (List.replicate 32 0) [(eI .u32 0), (eI .u32 0), (.row (some true) 1 [])])⟩]) (sv (d_alloc ti42 rfl rfl rfl)) ?_
          refine wN (h' := [some ⟨26, [(eI .u32 t_Version), (.row none 35 (t_Inputs.map E_api_Input)), (.row none 2 (t_Outputs.map E_api_Output)), (eI .u32 t_Lock)]⟩, some ⟨42, C_api_Input x41⟩]) (sv (d_store rfl rfl (stP ti42 rfl rfl rfl zl rfl))) <| zn <| AB.seq <| zq <| wS (v := (.ptr 1 34)) (sv (d_fa rfl (fap42_2 ..))) <| wS (v := (.row none 1 (x41.Witness.map (eL 1 (eI .u8))))) (sv (d_load rfl (ldP rfl (part1 ti40 rfl rfl)))) <| wS (v := (eI .i64 (x41.Witness.length : Int))) (sv (d_len rfl (lenR ti40))) <| wS (v := (eB (decide (32 < (x41.Witness.length : Int))))) (sv (d_bin rfl rfl (bin_gtr ..))) <| zn ?_
          refine AB.cnd rfl (fun h5 => ?_) (fun h5 => ?_)
          · replace hr4 := iteT hr4 h5
            refine zq <| wS (v := (eB false)) (sv (d_assign rfl)) <| zn <| AB.ret <| Ex.then_ret_mk <| Ex.inBlock_ret_mk <| Ex.then_ret_mk <| Ex.then_ret_mk <| Ex.inBlock_ret_mk <| Ex.then_ret_mk ?_
            obtain rfl := Option.some.inj hr4
            obtain rfl := Option.some.inj hr
            exact done_ret (r1 := (eB false)) (res1 Tryd.results18 (rvT rfl)) (zG [])
          · replace hr4 := iteF hr4 h5
            refine AB.skip <| Ex.then_mk <| zq <| wS (v := (.ptr 1 34)) (sv (d_fa rfl (fap42_2 ..))) <| wS (v := (.row none 1 (x41.Witness.map (eL 1 (eI .u8))))) (sv (d_load rfl (ldP rfl (part1 ti40 rfl rfl)))) <| wS (v := (eI .i64 (x41.Witness.length : Int))) (sv (d_len rfl (lenR ti40))) <| wS (v := (eI .i64 0)) (sv (d_move rfl)) <| zn ?_
            replace hr4 := bnd hr4; obtain ⟨res6, hL6, hr4⟩ := hr4
            refine AB.block ?_
            refine AB.loopN (fun m s h => ∃ (x50 : Int), ref09_Fits_L6 N t_Version t_Inputs t_Outputs t_Lock x39 x41 m x50 = some res6 ∧ Ghost 0 s h (mkF 63 [(1, (.ptr 0 0)), (37, (.row none 35 (t_Inputs.map E_api_Input))), (38, (eI .i64 (t_Inputs.length : Int))), (39, (eI .i64 x39)), (48, (.row none 1 (x41.Witness.map (eL 1 (eI .u8))))), (49, (eI .i64 (x41.Witness.length : Int))), (50, (eI .i64 x50))]) [some ⟨26, [(eI .u32 t_Version), (.row none 35 (t_Inputs.map E_api_Input)), (.row none 2 (t_Outputs.map E_api_Output)), (eI .u32 t_Lock)]⟩]) (n := N) ⟨0, hL6, (zG [0])⟩ (by rintro s h ⟨_, h0, _⟩; simp [ref09_Fits_L6] at h0) ?_
            rintro m6 s h ⟨x50, hr6, hg⟩
            refine AB.ghost hg ?_
            clear hg hL6
            rw [ref09_Fits_L6] at hr6
            refine zq <| wS (sv (d_bin rfl rfl (bin_lss ..))) <| zn <| AB.seq ?_
            refine AB.cnd rfl (fun h6 => ?_) (fun h6 => ?_)
            · replace hr6 := iteT hr6 h6
              refine AB.skip <| Ex.then_mk <| AB.seq <| AB.block <| AB.seq ?_
              replace hr6 := bnd hr6; obtain ⟨x52, h_7, hr6⟩ := hr6
              refine AB.rw <| wS (sv (d_ia rfl rfl (iaR ti40 ti27 h_7))) <| wS (v := (.row none 1 (x52.map (eI .u8)))) (sv (d_load rfl (ldR h_7 (part1 ti27 rfl rfl)))) <| za rfl <| zn <| zq <| zm rfl <| wS (v := (eI .i64 (x52.length : Int))) (sv (d_len rfl (lenR ti27))) <| wS (v := (eB (decide (520 < (x52.length : Int))))) (sv (d_bin rfl rfl (bin_gtr ..))) <| zn ?_
              refine AB.cnd rfl (fun h8 => ?_) (fun h8 => ?_)
              · replace hr6 := iteT hr6 h8
                refine zq <| wS (v := (eB false)) (sv (d_assign rfl)) <| zn <| AB.ret <| Ex.inBlock_ret_mk <| Ex.then_ret_mk <| Ex.then_ret_mk <| Ex.inBlock_ret_mk <| Ex.inBlock_ret_mk <| Ex.then_ret_mk <| Ex.then_ret_mk <| Ex.inBlock_ret_mk <| Ex.then_ret_mk ?_
                obtain rfl := Option.some.inj hr6
                obtain rfl := Option.some.inj hr4
                obtain rfl := Option.some.inj hr
                exact done_ret (r1 := (eB false)) (res1 Tryd.results18 (rvT rfl)) (zG [])
              · replace hr6 := iteF hr6 h8
                refine AB.skip <| Ex.inBlock_mk <| Ex.then_mk <| AB.rw <| wS (v := (eI .i64 (IntKind.i64.wrap (x50 + 1)))) (sv (d_bin rfl rfl (bin_add ..))) <| zm rfl <| zn ?_
                exact ⟨IntKind.i64.wrap (x50 + 1), hr6, (zG [0])⟩
            · replace hr6 := iteF hr6 h6
              refine AB.exit <| Ex.then_exit_mk <| Ex.then_exit_mk <| Ex.inBlock_same_mk ?_
              obtain rfl := Option.some.inj hr6
              refine Ex.inBlock_mk <| Ex.then_mk ?_
              exact hG5 _ _ _ _ (zG [0]) (J5 hr4)
        · replace hr4 := iteF hr4 h3
          refine AB.exit <| Ex.then_exit_mk <| Ex.then_exit_mk <| Ex.inBlock_same_mk ?_
          obtain rfl := Option.some.inj hr4
          refine Ex.then_mk ?_
          exact hG3 _ _ _ _ (zG [0]) (J3 hr)
      refine zq <| wS (v := (.ptr 0 2)) (sv (d_fa rfl (fap26_2 ..))) <| wS (v := (.row none 2 (t_Outputs.map E_api_Output))) (sv (d_load rfl (ldP rfl (part1 ti24 rfl rfl)))) <| wS (v := (eI .i64 (t_Outputs.length : Int))) (sv (d_len rfl (lenR ti24))) <| wS (v := (eI .i64 0)) (sv (d_move rfl)) <| zn ?_
      replace hr := bnd hr; obtain ⟨res7, hL7, hr⟩ := hr
      refine AB.block <| AB.loopN (fun m s h => ∃ (x22 : Int), ref09_Fits_L7 N t_Version t_Inputs t_Outputs t_Lock m x22 = some res7 ∧ Ghost 0 s h (mkF 63 [(1, (.ptr 0 0)), (20, (.row none 2 (t_Outputs.map E_api_Output))), (21, (eI .i64 (t_Outputs.length : Int))), (22, (eI .i64 x22))]) [some ⟨26, [(eI .u32 t_Version), (.row none 35 (t_Inputs.map E_api_Input)), (.row none 2 (t_Outputs.map E_api_Output)), (eI .u32 t_Lock)]⟩]) (n := N) ⟨0, hL7, (zG [0])⟩ (by rintro s h ⟨_, h0, _⟩; simp [ref09_Fits_L7] at h0) ?_
      rintro m7 s h ⟨x22, hr7, hg⟩
      refine AB.ghost hg ?_
      clear hg hL7
      rw [ref09_Fits_L7] at hr7
      refine zq <| wS (sv (d_bin rfl rfl (bin_lss ..))) <| zn <| AB.seq ?_
      refine AB.cnd rfl (fun h9 => ?_) (fun h9 => ?_)
      · replace hr7 := iteT hr7 h9
        refine AB.skip <| Ex.then_mk <| AB.seq <| AB.block <| AB.seq ?_
        replace hr7 := bnd hr7; obtain ⟨x24, h_10, hr7⟩ := hr7
        refine AB.rw <| wS (sv (d_ia rfl rfl (iaR ti24 ti29 h_10))) <| wS (v := (.agg [(eI .i64 x24.Value), (.row none 1 (x24.Script.map (eI .u8)))])) (sv (d_load rfl (ldR h_10 (partN (ds := [(eI .i64 x24.Value), (.row none 1 (x24.Script.map (eI .u8)))]) ti29 rfl zl rfl)))) <| wS (v := (.ptr 1 0)) (h' := [some ⟨26, [(eI .u32 t_Version), (.row none 35 (t_Inputs.map E_api_Input)), (.row none 2 (t_Outputs.map E_api_Output)), (eI .u32 t_Lock)]⟩, some ⟨29, [(eI .i64 0), (.row (some true) 1 [])]⟩]) (sv (d_alloc ti29 rfl rfl rfl)) ?_
        refine wN (h' := [some ⟨26, [(eI .u32 t_Version), (.row none 35 (t_Inputs.map E_api_Input)), (.row none 2 (t_Outputs.map E_api_Output)), (eI .u32 t_Lock)]⟩, some ⟨29, [(eI .i64 x24.Value), (.row none 1 (x24.Script.map (eI .u8)))]⟩]) (sv (d_store rfl rfl (stP ti29 rfl rfl rfl zl rfl))) <| zn ?_
        refine AB.seq_g fun K8 hK8 hG8 => ?_
        have J8 : ∀ (x34 : Bool), ref09_Fits_J8 N t_Version t_Inputs t_Outputs t_Lock x22 (ref09_Fits_L7 N t_Version t_Inputs t_Outputs t_Lock m7) x34 = some res7 → K8 (mkF 63 [(1, (.ptr 0 0)), (20, (.row none 2 (t_Outputs.map E_api_Output))), (21, (eI .i64 (t_Outputs.length : Int))), (22, (eI .i64 x22)), (34, (eB x34))]) [some ⟨26, [(eI .u32 t_Version), (.row none 35 (t_Inputs.map E_api_Input)), (.row none 2 (t_Outputs.map E_api_Output)), (eI .u32 t_Lock)]⟩] := by
          intro x34 hr7
          unfold ref09_Fits_J8 at hr7
          refine hK8 _ _ ?_
          refine AB.cnd rfl (fun h11 => ?_) (fun h11 => ?_)
          · replace hr7 := iteT hr7 h11
            refine zq <| wS (v := (eB false)) (sv (d_assign rfl)) <| zn <| AB.ret <| Ex.inBlock_ret_mk <| Ex.then_ret_mk <| Ex.then_ret_mk <| Ex.inBlock_ret_mk <| Ex.then_ret_mk ?_
            obtain rfl := Option.some.inj hr7
            obtain rfl := Option.some.inj hr
            exact done_ret (r1 := (eB false)) (res1 Tryd.results18 (rvT rfl)) (zG [])
          · replace hr7 := iteF hr7 h11
            refine AB.skip <| Ex.inBlock_mk <| Ex.then_mk <| AB.rw <| wS (v := (eI .i64 (IntKind.i64.wrap (x22 + 1)))) (sv (d_bin rfl rfl (bin_add ..))) <| zm rfl <| zn ?_
            exact ⟨IntKind.i64.wrap (x22 + 1), hr7, (zG [0])⟩
        rcases Bool.eq_false_or_eq_true (decide (x24.Value < 0)) with h12 | h12
        · replace hr7 := iteT hr7 h12
          refine AB.rw <| wS (v := (.ptr 1 0)) (sv (d_fa rfl (fap29_0 ..))) <| wS (v := (eI .i64 x24.Value)) (sv (d_load rfl (ldP rfl (part1 ti2 rfl rfl)))) <| wS (v := (eB (decide (x24.Value < 0)))) (sv (d_bin rfl rfl (bin_lss ..))) <| zm rfl <| wS (svX rfl rfl h12) <| wS (svX rfl rfl h12) <| wS (svX rfl rfl h12) <| wS (svX rfl rfl h12) <| wS (v := (eB true)) (sv (d_pickT rfl h12 rfl)) <| zn ?_
          exact hG8 _ _ _ _ (zG [0]) (J8 true hr7)
        · replace hr7 := iteF hr7 h12
          refine AB.rw <| wS (v := (.ptr 1 0)) (sv (d_fa rfl (fap29_0 ..))) <| wS (v := (eI .i64 x24.Value)) (sv (d_load rfl (ldP rfl (part1 ti2 rfl rfl)))) <| wS (v := (eB (decide (x24.Value < 0)))) (sv (d_bin rfl rfl (bin_lss ..))) <| zm rfl <| wS (v := (.ptr 1 1)) (svG rfl rfl h12 (d_fa rfl (fap29_1 ..))) <| wS (v := (.row none 1 (x24.Script.map (eI .u8)))) (svG rfl rfl h12 (d_load rfl (ldP rfl (part1 ti27 rfl rfl)))) <| wS (v := (eI .i64 (x24.Script.length : Int))) (svG rfl rfl h12 (d_len rfl (lenR ti27))) ?_
          refine wS (v := (eB (decide (520 < (x24.Script.length : Int))))) (svG rfl rfl h12 (d_bin rfl rfl (bin_gtr ..))) <| wS (v := (eB (decide (520 < (x24.Script.length : Int))))) (sv (d_pickF rfl h12 rfl)) <| zn ?_
          exact hG8 _ _ _ _ (zG [0]) (J8 (decide (520 < (x24.Script.length : Int))) hr7)
      · replace hr7 := iteF hr7 h9
        refine AB.exit <| Ex.then_exit_mk <| Ex.then_exit_mk <| Ex.inBlock_same_mk ?_
        obtain rfl := Option.some.inj hr7
        refine Ex.then_mk ?_
        exact hG2 _ _ _ _ (zG [0]) (J2 hr)
  rcases Bool.eq_false_or_eq_true (decide (64 < (t_Inputs.length : Int))) with h13 | h13
  · replace hr := iteT hr h13
    refine AB.rw <| wS (v := (.ptr 0 1)) (sv (d_fa rfl (fap26_1 ..))) <| wS (v := (.row none 35 (t_Inputs.map E_api_Input))) (sv (d_load rfl (ldP rfl (part1 ti23 rfl rfl)))) <| wS (v := (eI .i64 (t_Inputs.length : Int))) (sv (d_len rfl (lenR ti23))) <| wS (v := (eB (decide (64 < (t_Inputs.length : Int))))) (sv (d_bin rfl rfl (bin_gtr ..))) <| zm rfl <| wS (svX rfl rfl h13) <| wS (svX rfl rfl h13) <| wS (svX rfl rfl h13) <| wS (svX rfl rfl h13) <| wS (v := (eB true)) (sv (d_pickT rfl h13 rfl)) <| zn ?_
    exact hG1 _ _ _ _ (zG [0]) (J1 true hr)
  · replace hr := iteF hr h13
    refine AB.rw <| wS (v := (.ptr 0 1)) (sv (d_fa rfl (fap26_1 ..))) <| wS (v := (.row none 35 (t_Inputs.map E_api_Input))) (sv (d_load rfl (ldP rfl (part1 ti23 rfl rfl)))) <| wS (v := (eI .i64 (t_Inputs.length : Int))) (sv (d_len rfl (lenR ti23))) <| wS (v := (eB (decide (64 < (t_Inputs.length : Int))))) (sv (d_bin rfl rfl (bin_gtr ..))) <| zm rfl <| wS (v := (.ptr 0 2)) (svG rfl rfl h13 (d_fa rfl (fap26_2 ..))) <| wS (v := (.row none 2 (t_Outputs.map E_api_Output))) (svG rfl rfl h13 (d_load rfl (ldP rfl (part1 ti24 rfl rfl)))) ?_
    refine wS (v := (eI .i64 (t_Outputs.length : Int))) (svG rfl rfl h13 (d_len rfl (lenR ti24))) <| wS (v := (eB (decide (64 < (t_Outputs.length : Int))))) (svG rfl rfl h13 (d_bin rfl rfl (bin_gtr ..))) <| wS (v := (eB (decide (64 < (t_Outputs.length : Int))))) (sv (d_pickF rfl h13 rfl)) <| zn ?_
    exact hG1 _ _ _ _ (zG [0]) (J1 (decide (64 < (t_Outputs.length : Int))) hr)
set_option maxRecDepth 20000 in
set_option maxHeartbeats 1000000 in
theorem ref03_Pad_ok (N : Nat) (vn : Int) (r : (List Int)) (hr : ref03_Pad N vn = some r) :
    Vm.Fn Tryd.prog 39 [] [(eI .u64 vn)] (.sl 0 0 r.length 1 false) [some ⟨5, r.map (eI .u8)⟩] := by
  refine fn_ab Tryd.func39 rfl (by kernel_rfl) Tryd.ntmps39 zl rfl (fr := [(0, (eI .u64 vn))]) rfl ?_
  unfold ref03_Pad at hr
  refine zq <| wS (v := (.row (some true) 1 [])) (sv (d_assign rfl)) <| zn <| zq <| wS (v := (.sl 0 0 1 1 false)) (h' := [some ⟨5, [128].map (eI .u8)⟩]) (sv (d_buildS rfl (bldL1 (xs := [128].map (eI .u8)) ti27 ti5 zl zl rfl rfl rfl rfl rfl rfl rfl))) <| za rfl <| zn ?_
  refine AB.seq_g fun K1 hK1 hG1 => ?_
  have J1 : ∀ (l0 : List Int), ref03_Pad_J1 N vn l0 = some r → K1 (mkF 31 [(0, (eI .u64 vn)), (3, (.sl 0 0 l0.length 1 false))]) [some ⟨5, l0.map (eI .u8)⟩] := by
    intro l0 hr
    unfold ref03_Pad_J1 at hr
    refine hK1 _ _ ?_
    refine AB.seq_g fun K2 hK2 hG2 => ?_
    have J2 : ∀ (l0_1 : List Int), ref03_Pad_J2 N l0_1 = some r → K2 (mkF 31 [(3, (.sl 0 0 l0_1.length 1 false))]) [some ⟨5, l0_1.map (eI .u8)⟩] := by
      intro l0_1 hr
      unfold ref03_Pad_J2 at hr
      refine hK2 _ _ <| zq <| zm rfl <| za rfl <| zn <| AB.ret ?_
      obtain rfl := Option.some.inj hr
      exact done_ret (r1 := (.sl 0 0 l0_1.length 1 false)) (res1 Tryd.results39 (rvT rfl)) (zG [0])
    refine zq <| wS (v := (eI .i64 7)) (sv (d_assign rfl)) <| zn ?_
    replace hr := bnd hr; obtain ⟨res3, hL3, hr⟩ := hr
    refine AB.block <| AB.loopN (fun m s h => ∃ (vi : Int) (l0_2 : List Int), ref03_Pad_L3 N vn m vi l0_2 = some res3 ∧ Ghost 0 s h (mkF 31 [(0, (eI .u64 vn)), (3, (.sl 0 0 l0_2.length 1 false)), (4, (eI .i64 vi))]) [some ⟨5, l0_2.map (eI .u8)⟩]) (n := N) ⟨7, l0, hL3, (zG [0])⟩ (by rintro s h ⟨_, _, h0, _⟩; simp [ref03_Pad_L3] at h0) ?_
    rintro m3 s h ⟨vi, l0_2, hr3, hg⟩
    refine AB.ghost hg ?_
    clear hg hL3
    rw [ref03_Pad_L3] at hr3
    refine AB.seq <| zq <| zm rfl <| wS (v := (eB (decide (0 ≤ vi)))) (sv (d_bin rfl rfl (bin_geq ..))) <| zn ?_
    refine AB.cnd rfl (fun h1 => ?_) (fun h1 => ?_)
    · replace hr3 := iteT hr3 h1
      refine AB.skip <| Ex.then_mk <| AB.seq <| AB.block ?_
      replace hr3 := bnd hr3; obtain ⟨x26, h_2, hr3⟩ := hr3
      replace hr3 := bnd hr3; obtain ⟨x29, h_3, hr3⟩ := hr3
      refine AB.rw <| zm rfl <| zm rfl <| wS (v := (eI .u64 (IntKind.u64.wrap (8 * vn)))) (sv (d_bin rfl rfl (bin_mul ..))) <| zm rfl <| wS (v := (eI .i64 (IntKind.i64.wrap (8 * vi)))) (sv (d_bin rfl rfl (bin_mul ..))) <| wS (sv (d_bin rfl rfl (bin_shr' _ _ _ _ h_2))) <| wS (sv (d_conv rfl (conv_int _ ⟨_, ti65⟩ ti5 rfl))) <| wS (v := (.sl 1 0 1 1 false)) (h' := [some ⟨5, l0_2.map (eI .u8)⟩, some ⟨5, [IntKind.u8.wrap x26].map (eI .u8)⟩]) (sv (d_buildS rfl (bldL1 (xs := [IntKind.u8.wrap x26].map (eI .u8)) ti27 ti5 zl zl rfl rfl rfl rfl rfl rfl rfl))) ?_
      refine wS (v := (.sl 2 0 x29.length 1 false)) (h' := [none, some ⟨5, [IntKind.u8.wrap x26].map (eI .u8)⟩, some ⟨5, x29.map (eI .u8)⟩]) (sv (d_append rfl rfl (appS (E := (eI .u8)) rfl ti27 ti5 ⟨rfl, rfl, zl⟩ rfl (srcS rfl rfl) h_3 rfl rfl))) <| za rfl <| OpsW.nil <| Ex.inBlock_mk <| Ex.then_mk <| AB.rw <| zm rfl <| wS (v := (eI .i64 (IntKind.i64.wrap (vi - 1)))) (sv (d_bin rfl rfl (bin_sub ..))) <| za rfl <| zn ?_
      exact ⟨IntKind.i64.wrap (vi - 1), x29, hr3, (zG [2])⟩
    · replace hr3 := iteF hr3 h1
      refine AB.exit <| Ex.then_exit_mk <| Ex.then_exit_mk <| Ex.inBlock_same_mk ?_
      obtain rfl := Option.some.inj hr3
      refine Ex.then_mk ?_
      exact hG2 _ _ _ _ (zG [0]) (J2 l0_2 hr)
  replace hr := bnd hr; obtain ⟨res4, hL4, hr⟩ := hr
  refine AB.block <| AB.loopN (fun m s h => ∃ (l0_3 : List Int), ref03_Pad_L4 N vn m l0_3 = some res4 ∧ Ghost 0 s h (mkF 31 [(0, (eI .u64 vn)), (3, (.sl 0 0 l0_3.length 1 false))]) [some ⟨5, l0_3.map (eI .u8)⟩]) (n := N) ⟨[128], hL4, (Ghost.rn [0] rfl rfl (FLe.same rfl (FLe.le rfl (by first | exact V.le_refl _ _ | (simp only [len_set, len_cpy]; exact V.le_refl _ _)) FLe.nil)) (HLe.live rfl (les_map (fun _ => rfl) _) (all_map (fun _ => rfl) _) HLe.nil) rfl)⟩ (by rintro s h ⟨_, h0, _⟩; simp [ref03_Pad_L4] at h0) ?_
  rintro m4 s h ⟨l0_3, hr4, hg⟩
  refine AB.ghost hg ?_
  clear hg hL4
  rw [ref03_Pad_L4] at hr4
  refine AB.seq <| zq <| zm rfl <| zm rfl <| wS (v := (eI .i64 (l0_3.length : Int))) (sv (d_len rfl (lenS ti27))) <| wS (sv (d_conv rfl (conv_int _ ⟨_, ti3⟩ ti65 rfl))) <| wS (sv (d_bin rfl rfl (bin_add ..))) <| wS (v := (eI .u64 (IntKind.u64.wrap ((IntKind.u64.wrap (vn + (IntKind.u64.wrap (l0_3.length : Int)))) + 8)))) (sv (d_bin rfl rfl (bin_add ..))) <| wS (v := (eI .u64 (Int.tmod (IntKind.u64.wrap ((IntKind.u64.wrap (vn + (IntKind.u64.wrap (l0_3.length : Int)))) + 8)) 64))) (sv (d_bin rfl rfl (bin_rem' _ _ _ _ rfl))) ?_
  refine wS (v := (eB ((Int.tmod (IntKind.u64.wrap ((IntKind.u64.wrap (vn + (IntKind.u64.wrap (l0_3.length : Int)))) + 8)) 64) != 0))) (sv (d_bin rfl rfl (bin_neq ..))) <| zn ?_
  refine AB.cnd rfl (fun h4 => ?_) (fun h4 => ?_)
  · replace hr4 := iteT hr4 h4
    refine AB.skip <| Ex.then_mk <| AB.block ?_
    replace hr4 := bnd hr4; obtain ⟨x16, h_5, hr4⟩ := hr4
    refine AB.rw <| zm rfl <| wS (v := (.sl 1 0 1 1 false)) (h' := [some ⟨5, l0_3.map (eI .u8)⟩, some ⟨5, [0].map (eI .u8)⟩]) (sv (d_buildS rfl (bldL1 (xs := [0].map (eI .u8)) ti27 ti5 zl zl rfl rfl rfl rfl rfl rfl rfl))) <| wS (v := (.sl 2 0 x16.length 1 false)) (h' := [none, some ⟨5, [0].map (eI .u8)⟩, some ⟨5, x16.map (eI .u8)⟩]) (sv (d_append rfl rfl (appS (E := (eI .u8)) rfl ti27 ti5 ⟨rfl, rfl, zl⟩ rfl (srcS rfl rfl) h_5 rfl rfl))) <| za rfl <| OpsW.nil <| Ex.inBlock_mk <| Ex.then_mk ?_
    exact ⟨x16, hr4, (zG [2])⟩
  · replace hr4 := iteF hr4 h4
    refine AB.exit <| Ex.then_exit_mk <| Ex.then_exit_mk <| Ex.inBlock_same_mk ?_
    obtain rfl := Option.some.inj hr4
    refine Ex.then_mk ?_
    exact hG1 _ _ _ _ (zG [0]) (J1 l0_3 hr)
set_option maxRecDepth 20000 in
set_option maxHeartbeats 1000000 in
theorem ref03_Initial_ok (N : Nat) (r : (List Int)) (hr : ref03_Initial N = some r) :
    Vm.Fn Tryd.prog 40 [] [] (.agg (r.map (eI .u32))) [] := by
  refine fn_ab Tryd.func40 rfl (by kernel_rfl) Tryd.ntmps40 zl rfl (fr := []) rfl ?_
  unfold ref03_Initial at hr
  refine zq <| wS (v := (.ptr 0 0)) (h' := [some ⟨70, (List.replicate 8 0).map (eI .u32)⟩]) (sv (d_alloc ti70 rfl rfl rfl)) <| zn <| zq <| wS (v := (.agg ([1779033703, 3144134277, 1013904242, 2773480762, 1359893119, 2600822924, 528734635, 1541459225].map (eI .u32)))) (sv (d_build rfl (bldA ti70 ti22 rfl))) <| wN (h' := [some ⟨70, [1779033703, 3144134277, 1013904242, 2773480762, 1359893119, 2600822924, 528734635, 1541459225].map (eI .u32)⟩]) (sv (d_store rfl rfl (stA (E := (eI .u32)) (l := List.replicate 8 0) ti70 rfl rfl (fun _ => rfl) rfl rfl rfl))) <| zn <| AB.ret ?_
  obtain rfl := Option.some.inj hr
  exact done_ret (r1 := (.agg ([1779033703, 3144134277, 1013904242, 2773480762, 1359893119, 2600822924, 528734635, 1541459225].map (eI .u32)))) (res1 Tryd.results40 (rvC rfl (ldA (E := (eI .u32)) (l := [1779033703, 3144134277, 1013904242, 2773480762, 1359893119, 2600822924, 528734635, 1541459225]) ti70 rfl rfl rfl))) (zG [])
set_option maxRecDepth 20000 in
set_option maxHeartbeats 1000000 in
theorem ref03_rotr_ok (N : Nat) (x : Int) (vn : Int) (r : Int) (hr : ref03_rotr N x vn = some r) :
    Vm.Fn Tryd.prog 54 [] [(eI .u32 x), (eI .i64 vn)] (eI .u32 r) [] := by
  refine fn_ab Tryd.func54 rfl (by kernel_rfl) Tryd.ntmps54 zl rfl (fr := [(0, (eI .u32 x)), (1, (eI .i64 vn))]) rfl ?_
  unfold ref03_rotr at hr
  refine zq <| wS (v := (eI .u32 0)) (sv (d_assign rfl)) <| zn <| AB.seq ?_
  replace hr := bnd hr; obtain ⟨x8, h_1, hr⟩ := hr
  refine AB.rw <| zm rfl <| zm rfl <| wS (sv (d_un rfl (un_neg ..))) <| wC rfl (Vm.Fn.pure (math_bits_RotateLeft32_ok N x (IntKind.i64.wrap (0 - vn)) x8 h_1) rfl rfl) <| za rfl <| zn <| AB.ret ?_
  obtain rfl := Option.some.inj hr
  exact done_ret (r1 := (eI .u32 x8)) (res1 Tryd.results54 (rvT rfl)) (zG [])
set_option maxRecDepth 20000 in
set_option maxHeartbeats 1000000 in
theorem ref03_schedule_ok (N : Nat) (block : List Int) (r : (List Int)) (hr : ref03_schedule N block = some r) :
    Vm.Fn Tryd.prog 52 [] [(.agg (block.map (eI .u8)))] (.agg (r.map (eI .u32))) [] := by
  refine fn_ab Tryd.func52 rfl (by kernel_rfl) Tryd.ntmps52 zl rfl (fr := [(0, (.agg (block.map (eI .u8))))]) rfl ?_
  unfold ref03_schedule at hr
  refine zq <| wS (v := (.ptr 0 0)) (h' := [some ⟨72, block.map (eI .u8)⟩]) (sv (d_box rfl (flatA (fun _ => rfl)) rfl rfl)) <| wS (v := (.ptr 1 0)) (h' := [some ⟨72, block.map (eI .u8)⟩, some ⟨78, (List.replicate 64 0).map (eI .u32)⟩]) (sv (d_alloc ti78 rfl rfl rfl)) <| zn <| zq <| wS (v := (.ptr 2 0)) (h' := [some ⟨72, block.map (eI .u8)⟩, some ⟨78, (List.replicate 64 0).map (eI .u32)⟩, some ⟨78, (List.replicate 64 0).map (eI .u32)⟩]) (sv (d_alloc ti78 rfl rfl rfl)) <| zn ?_
  refine AB.seq_g fun K1 hK1 hG1 => ?_
  have J1 : ∀ (l1 : List Int), ref03_schedule_J1 N l1 = some r → K1 (mkF 97 [(2, (.ptr 0 0)), (3, (.ptr 1 0))]) [some ⟨78, (List.replicate 64 0).map (eI .u32)⟩, some ⟨78, l1.map (eI .u32)⟩] := by
    intro l1 hr
    unfold ref03_schedule_J1 at hr
    refine hK1 _ _ ?_
    refine AB.seq_g fun K2 hK2 hG2 => ?_
    have J2 : ∀ (l1_1 : List Int), ref03_schedule_J2 N l1_1 = some r → K2 (mkF 97 [(2, (.ptr 0 0)), (3, (.ptr 1 0))]) [some ⟨78, (List.replicate 64 0).map (eI .u32)⟩, some ⟨78, l1_1.map (eI .u32)⟩] := by
      intro l1_1 hr
      unfold ref03_schedule_J2 at hr
      refine hK2 _ _ <| AB.seq ?_
      replace hr := bnd hr; obtain ⟨q, h_1, hr⟩ := hr
      refine AB.rw <| wS (v := (.agg (l1_1.map (eI .u32)))) (sv (d_load rfl (ldA (E := (eI .u32)) (l := l1_1) ti78 rfl rfl (arr_len h_1)))) <| wN (h' := [some ⟨78, l1_1.map (eI .u32)⟩, some ⟨78, l1_1.map (eI .u32)⟩]) (sv (d_store rfl rfl (stA (E := (eI .u32)) (l := List.replicate 64 0) ti78 rfl rfl (fun _ => rfl) rfl (arr_len h_1) rfl))) <| zn <| AB.ret ?_
      obtain rfl := Option.some.inj hr
      exact done_ret (r1 := (.agg (l1_1.map (eI .u32)))) (res1 Tryd.results52 (rvC rfl (ldA (E := (eI .u32)) (l := l1_1) ti78 rfl rfl (arr_len h_1)))) (zG [])
    refine zq <| wS (v := (eI .i64 16)) (sv (d_assign rfl)) <| zn ?_
    replace hr := bnd hr; obtain ⟨res3, hL3, hr⟩ := hr
    refine AB.block <| AB.loopN (fun m s h => ∃ (vi : Int) (l1_2 : List Int), ref03_schedule_L3 N m vi l1_2 = some res3 ∧ Ghost 0 s h (mkF 97 [(2, (.ptr 0 0)), (3, (.ptr 1 0)), (5, (eI .i64 vi))]) [some ⟨78, (List.replicate 64 0).map (eI .u32)⟩, some ⟨78, l1_2.map (eI .u32)⟩]) (n := N) ⟨16, l1, hL3, (zG [0, 1])⟩ (by rintro s h ⟨_, _, h0, _⟩; simp [ref03_schedule_L3] at h0) ?_
    rintro m3 s h ⟨vi, l1_2, hr3, hg⟩
    refine AB.ghost hg ?_
    clear hg hL3
    rw [ref03_schedule_L3] at hr3
    refine AB.seq <| zq <| zm rfl <| wS (v := (eB (decide (vi < 64)))) (sv (d_bin rfl rfl (bin_lss ..))) <| zn ?_
    refine AB.cnd rfl (fun h2 => ?_) (fun h2 => ?_)
    · replace hr3 := iteT hr3 h2
      refine AB.skip <| Ex.then_mk <| AB.seq <| AB.block <| AB.seq ?_
      replace hr3 := bnd hr3; obtain ⟨x49, h_3, hr3⟩ := hr3
      replace hr3 := bnd hr3; obtain ⟨x51, h_4, hr3⟩ := hr3
      replace hr3 := bnd hr3; obtain ⟨x56, h_6, hr3⟩ := hr3
      replace hr3 := bnd hr3; obtain ⟨x62, h_8, hr3⟩ := hr3
      refine AB.rd (memF [54]) (memF []) mixed <| DrawG.pick (n := 17) (i := 0) (by decide +kernel) rfl (gS (v := (eI .i64 vi)) (sv (d_move rfl))) <| DrawG.pick (n := 16) (i := 1) (by decide +kernel) rfl (gS (v := (eI .i64 (IntKind.i64.wrap (vi - 15)))) (sv (d_bin rfl rfl (bin_sub ..)))) <| DrawG.pick (n := 15) (i := 2) (by decide +kernel) rfl (gS (v := (.ptr 1 (Int.toNat (IntKind.i64.wrap (vi - 15))))) (sv (d_ia rfl rfl (iaB ti78 ti22 rfl h_3)))) <| DrawG.pick (n := 14) (i := 3) (by decide +kernel) rfl (gS (v := (eI .u32 x49)) (sv (d_load rfl (ldX (E := (eI .u32)) (y := x49) ti22 rfl rfl (aix_idx h_3))))) ?_
      refine DrawG.pick (n := 13) (i := 4) (by decide +kernel) rfl (gC (v := (eI .u32 x51)) (h' := [some ⟨78, (List.replicate 64 0).map (eI .u32)⟩, some ⟨78, l1_2.map (eI .u32)⟩]) (Vm.Fn.pure (ref03_rotr_ok N x49 7 x51 h_4) rfl rfl) (fun _ => rfl) (fun h => absurd h (by decide)) (sv (d_call rfl orc1_hit))) ?_
      refine DrawG.pick (n := 12) (i := 5) (by decide +kernel) rfl (gS (v := (eI .i64 vi)) (sv (d_move rfl))) <| DrawG.pick (n := 11) (i := 6) (by decide +kernel) rfl (gS (v := (eI .i64 (IntKind.i64.wrap (vi - 15)))) (sv (d_bin rfl rfl (bin_sub ..)))) <| DrawG.pick (n := 10) (i := 7) (by decide +kernel) rfl (gS (v := (.ptr 1 (Int.toNat (IntKind.i64.wrap (vi - 15))))) (sv (d_ia rfl rfl (iaB ti78 ti22 rfl h_3)))) <| DrawG.pick (n := 9) (i := 8) (by decide +kernel) rfl (gS (v := (eI .u32 x49)) (sv (d_load rfl (ldX (E := (eI .u32)) (y := x49) ti22 rfl rfl (aix_idx h_3))))) ?_
      refine DrawG.pick (n := 8) (i := 9) (by decide +kernel) rfl (gC (v := (eI .u32 x56)) (h' := [some ⟨78, (List.replicate 64 0).map (eI .u32)⟩, some ⟨78, l1_2.map (eI .u32)⟩]) (Vm.Fn.pure (ref03_rotr_ok N x49 18 x56 h_6) rfl rfl) (fun _ => rfl) (fun h => absurd h (by decide)) (sv (d_call rfl orc1_hit))) ?_
      refine DrawG.pick (n := 7) (i := 10) (by decide +kernel) rfl (gS (v := (eI .u32 (bits .xor .u32 x51 x56))) (sv (d_bin rfl rfl (bin_xor ..)))) <| DrawG.pick (n := 6) (i := 11) (by decide +kernel) rfl (gS (v := (eI .i64 vi)) (sv (d_move rfl))) <| DrawG.pick (n := 5) (i := 12) (by decide +kernel) rfl (gS (v := (eI .i64 (IntKind.i64.wrap (vi - 15)))) (sv (d_bin rfl rfl (bin_sub ..)))) <| DrawG.pick (n := 4) (i := 13) (by decide +kernel) rfl (gS (v := (.ptr 1 (Int.toNat (IntKind.i64.wrap (vi - 15))))) (sv (d_ia rfl rfl (iaB ti78 ti22 rfl h_3)))) ?_
      refine DrawG.pick (n := 3) (i := 14) (by decide +kernel) rfl (gS (v := (eI .u32 x49)) (sv (d_load rfl (ldX (E := (eI .u32)) (y := x49) ti22 rfl rfl (aix_idx h_3))))) <| DrawG.pick (n := 2) (i := 15) (by decide +kernel) rfl (gS (v := (eI .u32 x62)) (sv (d_bin rfl rfl (bin_shr' _ _ _ _ h_8)))) <| DrawG.pick (n := 1) (i := 16) (by decide +kernel) rfl (gS (v := (eI .u32 (bits .xor .u32 (bits .xor .u32 x51 x56) x62))) (sv (d_bin rfl rfl (bin_xor ..)))) <| DrawG.pick (n := 0) (i := 17) (by decide +kernel) rfl (gS (v := (eI .u32 (bits .xor .u32 (bits .xor .u32 x51 x56) x62))) (sv (d_assign rfl))) ?_
      refine DrawG.nil (by decide +kernel) <| Ex.then_mk <| AB.seq ?_
      replace hr3 := bnd hr3; obtain ⟨x66, h_9, hr3⟩ := hr3
      replace hr3 := bnd hr3; obtain ⟨x68, h_10, hr3⟩ := hr3
      replace hr3 := bnd hr3; obtain ⟨x73, h_12, hr3⟩ := hr3
      replace hr3 := bnd hr3; obtain ⟨x79, h_14, hr3⟩ := hr3
      refine AB.rd (memF [54]) (memF []) mixed <| DrawG.pick (n := 17) (i := 0) (by decide +kernel) rfl (gS (v := (eI .i64 vi)) (sv (d_move rfl))) <| DrawG.pick (n := 16) (i := 1) (by decide +kernel) rfl (gS (v := (eI .i64 (IntKind.i64.wrap (vi - 2)))) (sv (d_bin rfl rfl (bin_sub ..)))) <| DrawG.pick (n := 15) (i := 2) (by decide +kernel) rfl (gS (v := (.ptr 1 (Int.toNat (IntKind.i64.wrap (vi - 2))))) (sv (d_ia rfl rfl (iaB ti78 ti22 rfl h_9)))) <| DrawG.pick (n := 14) (i := 3) (by decide +kernel) rfl (gS (v := (eI .u32 x66)) (sv (d_load rfl (ldX (E := (eI .u32)) (y := x66) ti22 rfl rfl (aix_idx h_9))))) ?_
      refine DrawG.pick (n := 13) (i := 4) (by decide +kernel) rfl (gC (v := (eI .u32 x68)) (h' := [some ⟨78, (List.replicate 64 0).map (eI .u32)⟩, some ⟨78, l1_2.map (eI .u32)⟩]) (Vm.Fn.pure (ref03_rotr_ok N x66 17 x68 h_10) rfl rfl) (fun _ => rfl) (fun h => absurd h (by decide)) (sv (d_call rfl orc1_hit))) ?_
      refine DrawG.pick (n := 12) (i := 5) (by decide +kernel) rfl (gS (v := (eI .i64 vi)) (sv (d_move rfl))) <| DrawG.pick (n := 11) (i := 6) (by decide +kernel) rfl (gS (v := (eI .i64 (IntKind.i64.wrap (vi - 2)))) (sv (d_bin rfl rfl (bin_sub ..)))) <| DrawG.pick (n := 10) (i := 7) (by decide +kernel) rfl (gS (v := (.ptr 1 (Int.toNat (IntKind.i64.wrap (vi - 2))))) (sv (d_ia rfl rfl (iaB ti78 ti22 rfl h_9)))) <| DrawG.pick (n := 9) (i := 8) (by decide +kernel) rfl (gS (v := (eI .u32 x66)) (sv (d_load rfl (ldX (E := (eI .u32)) (y := x66) ti22 rfl rfl (aix_idx h_9))))) ?_
      refine DrawG.pick (n := 8) (i := 9) (by decide +kernel) rfl (gC (v := (eI .u32 x73)) (h' := [some ⟨78, (List.replicate 64 0).map (eI .u32)⟩, some ⟨78, l1_2.map (eI .u32)⟩]) (Vm.Fn.pure (ref03_rotr_ok N x66 19 x73 h_12) rfl rfl) (fun _ => rfl) (fun h => absurd h (by decide)) (sv (d_call rfl orc1_hit))) ?_
      refine DrawG.pick (n := 7) (i := 10) (by decide +kernel) rfl (gS (v := (eI .u32 (bits .xor .u32 x68 x73))) (sv (d_bin rfl rfl (bin_xor ..)))) <| DrawG.pick (n := 6) (i := 11) (by decide +kernel) rfl (gS (v := (eI .i64 vi)) (sv (d_move rfl))) <| DrawG.pick (n := 5) (i := 12) (by decide +kernel) rfl (gS (v := (eI .i64 (IntKind.i64.wrap (vi - 2)))) (sv (d_bin rfl rfl (bin_sub ..)))) <| DrawG.pick (n := 4) (i := 13) (by decide +kernel) rfl (gS (v := (.ptr 1 (Int.toNat (IntKind.i64.wrap (vi - 2))))) (sv (d_ia rfl rfl (iaB ti78 ti22 rfl h_9)))) ?_
      refine DrawG.pick (n := 3) (i := 14) (by decide +kernel) rfl (gS (v := (eI .u32 x66)) (sv (d_load rfl (ldX (E := (eI .u32)) (y := x66) ti22 rfl rfl (aix_idx h_9))))) <| DrawG.pick (n := 2) (i := 15) (by decide +kernel) rfl (gS (v := (eI .u32 x79)) (sv (d_bin rfl rfl (bin_shr' _ _ _ _ h_14)))) <| DrawG.pick (n := 1) (i := 16) (by decide +kernel) rfl (gS (v := (eI .u32 (bits .xor .u32 (bits .xor .u32 x68 x73) x79))) (sv (d_bin rfl rfl (bin_xor ..)))) <| DrawG.pick (n := 0) (i := 17) (by decide +kernel) rfl (gS (v := (eI .u32 (bits .xor .u32 (bits .xor .u32 x68 x73) x79))) (sv (d_assign rfl))) ?_
      refine DrawG.nil (by decide +kernel) <| Ex.then_mk ?_
      replace hr3 := bnd hr3; obtain ⟨x84, h_15, hr3⟩ := hr3
      replace hr3 := bnd hr3; obtain ⟨x90, h_16, hr3⟩ := hr3
      replace hr3 := bnd hr3; obtain ⟨x95, h_17, hr3⟩ := hr3
      refine AB.rg E0 (fun _ => by show drawOk (fun _ => false) _ = true; decide +kernel) <| tS (sv (d_move rfl)) <| tS (sv (d_move rfl)) <| tS (v := (eI .i64 (IntKind.i64.wrap (vi - 16)))) (sv (d_bin rfl rfl (bin_sub ..))) <| tS (v := (.ptr 1 (Int.toNat (IntKind.i64.wrap (vi - 16))))) (sv (d_ia rfl rfl (iaB ti78 ti22 rfl h_15))) <| tS (v := (eI .u32 x84)) (sv (d_load rfl (ldX (E := (eI .u32)) (y := x84) ti22 rfl rfl (aix_idx h_15)))) <| tS (sv (d_move rfl)) <| tS (sv (d_bin rfl rfl (bin_add ..))) <| tS (sv (d_move rfl)) <| tS (v := (eI .i64 (IntKind.i64.wrap (vi - 7)))) (sv (d_bin rfl rfl (bin_sub ..))) ?_
      refine tS (v := (.ptr 1 (Int.toNat (IntKind.i64.wrap (vi - 7))))) (sv (d_ia rfl rfl (iaB ti78 ti22 rfl h_16))) <| tS (v := (eI .u32 x90)) (sv (d_load rfl (ldX (E := (eI .u32)) (y := x90) ti22 rfl rfl (aix_idx h_16)))) <| tS (sv (d_bin rfl rfl (bin_add ..))) <| tS (sv (d_move rfl)) <| tS (sv (d_bin rfl rfl (bin_add ..))) <| tS (v := (.ptr 1 (Int.toNat vi))) (sv (d_ia rfl rfl (iaB ti78 ti22 rfl h_17))) ?_
      refine tN (h' := [some ⟨78, (List.replicate 64 0).map (eI .u32)⟩, some ⟨78, (l1_2.set (Int.toNat vi) (IntKind.u32.wrap ((IntKind.u32.wrap ((IntKind.u32.wrap (x84 + (bits .xor .u32 (bits .xor .u32 x51 x56) x62))) + x90)) + (bits .xor .u32 (bits .xor .u32 x68 x73) x79)))).map (eI .u32)⟩]) (sv (d_store rfl rfl (stXe (E := (eI .u32)) (y := IntKind.u32.wrap ((IntKind.u32.wrap ((IntKind.u32.wrap (x84 + (bits .xor .u32 (bits .xor .u32 x51 x56) x62))) + x90)) + (bits .xor .u32 (bits .xor .u32 x68 x73) x79))) ti22 rfl rfl (aix_idx h_17) rfl rfl rfl))) <| OpsTo.nil <| Ex.inBlock_mk <| Ex.then_mk <| AB.rw ?_
      refine zm rfl <| wS (v := (eI .i64 (IntKind.i64.wrap (vi + 1)))) (sv (d_bin rfl rfl (bin_add ..))) <| za rfl <| zn ?_
      exact ⟨IntKind.i64.wrap (vi + 1), l1_2.set (Int.toNat vi) (IntKind.u32.wrap ((IntKind.u32.wrap ((IntKind.u32.wrap (x84 + (bits .xor .u32 (bits .xor .u32 x51 x56) x62))) + x90)) + (bits .xor .u32 (bits .xor .u32 x68 x73) x79))), hr3, (zG [0, 1])⟩
    · replace hr3 := iteF hr3 h2
      refine AB.exit <| Ex.then_exit_mk <| Ex.then_exit_mk <| Ex.inBlock_same_mk ?_
      obtain rfl := Option.some.inj hr3
      refine Ex.then_mk ?_
      exact hG2 _ _ _ _ (zG [0, 1]) (J2 l1_2 hr)
  refine zq <| wS (v := (eI .i64 0)) (sv (d_assign rfl)) <| zn ?_
  replace hr := bnd hr; obtain ⟨res4, hL4, hr⟩ := hr
  refine AB.block <| AB.loopN (fun m s h => ∃ (vi_1 : Int) (l2 : List Int), ref03_schedule_L4 N block m vi_1 l2 = some res4 ∧ Ghost 0 s h (mkF 97 [(1, (.ptr 0 0)), (2, (.ptr 1 0)), (3, (.ptr 2 0)), (4, (eI .i64 vi_1))]) [some ⟨72, block.map (eI .u8)⟩, some ⟨78, (List.replicate 64 0).map (eI .u32)⟩, some ⟨78, l2.map (eI .u32)⟩]) (n := N) ⟨0, List.replicate 64 0, hL4, (zG [0, 1, 2])⟩ (by rintro s h ⟨_, _, h0, _⟩; simp [ref03_schedule_L4] at h0) ?_
  rintro m4 s h ⟨vi_1, l2, hr4, hg⟩
  refine AB.ghost hg ?_
  clear hg hL4
  rw [ref03_schedule_L4] at hr4
  refine AB.seq <| zq <| zm rfl <| wS (v := (eB (decide (vi_1 < 16)))) (sv (d_bin rfl rfl (bin_lss ..))) <| zn ?_
  refine AB.cnd rfl (fun h18 => ?_) (fun h18 => ?_)
  · replace hr4 := iteT hr4 h18
    refine AB.skip <| Ex.then_mk <| AB.seq <| AB.block ?_
    replace hr4 := bnd hr4; obtain ⟨x15, h_19, hr4⟩ := hr4
    replace hr4 := bnd hr4; obtain ⟨x18, h_20, hr4⟩ := hr4
    replace hr4 := bnd hr4; obtain ⟨x22, h_21, hr4⟩ := hr4
    replace hr4 := bnd hr4; obtain ⟨x25, h_22, hr4⟩ := hr4
    replace hr4 := bnd hr4; obtain ⟨x30, h_23, hr4⟩ := hr4
    replace hr4 := bnd hr4; obtain ⟨x33, h_24, hr4⟩ := hr4
    replace hr4 := bnd hr4; obtain ⟨x38, h_25, hr4⟩ := hr4
    replace hr4 := bnd hr4; obtain ⟨x42, h_26, hr4⟩ := hr4
    refine AB.rg E0 (fun _ => by show drawOk (fun _ => false) _ = true; decide +kernel) <| tS (sv (d_move rfl)) <| tS (sv (d_move rfl)) <| tS (v := (eI .i64 (IntKind.i64.wrap (4 * vi_1)))) (sv (d_bin rfl rfl (bin_mul ..))) <| tS (v := (.ptr 0 (Int.toNat (IntKind.i64.wrap (4 * vi_1))))) (sv (d_ia rfl rfl (iaB ti72 ti5 rfl h_19))) <| tS (v := (eI .u8 x15)) (sv (d_load rfl (ldX (E := (eI .u8)) (y := x15) ti5 rfl rfl (aix_idx h_19)))) <| tS (sv (d_conv rfl (conv_int _ ⟨_, ti5⟩ ti22 rfl))) <| tS (v := (eI .u32 x18)) (sv (d_bin rfl rfl (bin_shl' _ _ _ _ h_20))) <| tS (sv (d_move rfl)) ?_
    refine tS (v := (eI .i64 (IntKind.i64.wrap (4 * vi_1)))) (sv (d_bin rfl rfl (bin_mul ..))) <| tS (v := (eI .i64 (IntKind.i64.wrap ((IntKind.i64.wrap (4 * vi_1)) + 1)))) (sv (d_bin rfl rfl (bin_add ..))) <| tS (v := (.ptr 0 (Int.toNat (IntKind.i64.wrap ((IntKind.i64.wrap (4 * vi_1)) + 1))))) (sv (d_ia rfl rfl (iaB ti72 ti5 rfl h_21))) <| tS (v := (eI .u8 x22)) (sv (d_load rfl (ldX (E := (eI .u8)) (y := x22) ti5 rfl rfl (aix_idx h_21)))) <| tS (sv (d_conv rfl (conv_int _ ⟨_, ti5⟩ ti22 rfl))) <| tS (v := (eI .u32 x25)) (sv (d_bin rfl rfl (bin_shl' _ _ _ _ h_22))) <| tS (sv (d_bin rfl rfl (bin_or ..))) ?_
    refine tS (sv (d_move rfl)) <| tS (v := (eI .i64 (IntKind.i64.wrap (4 * vi_1)))) (sv (d_bin rfl rfl (bin_mul ..))) <| tS (v := (eI .i64 (IntKind.i64.wrap ((IntKind.i64.wrap (4 * vi_1)) + 2)))) (sv (d_bin rfl rfl (bin_add ..))) <| tS (v := (.ptr 0 (Int.toNat (IntKind.i64.wrap ((IntKind.i64.wrap (4 * vi_1)) + 2))))) (sv (d_ia rfl rfl (iaB ti72 ti5 rfl h_23))) <| tS (v := (eI .u8 x30)) (sv (d_load rfl (ldX (E := (eI .u8)) (y := x30) ti5 rfl rfl (aix_idx h_23)))) <| tS (sv (d_conv rfl (conv_int _ ⟨_, ti5⟩ ti22 rfl))) <| tS (v := (eI .u32 x33)) (sv (d_bin rfl rfl (bin_shl' _ _ _ _ h_24))) ?_
    refine tS (sv (d_bin rfl rfl (bin_or ..))) <| tS (sv (d_move rfl)) <| tS (v := (eI .i64 (IntKind.i64.wrap (4 * vi_1)))) (sv (d_bin rfl rfl (bin_mul ..))) <| tS (v := (eI .i64 (IntKind.i64.wrap ((IntKind.i64.wrap (4 * vi_1)) + 3)))) (sv (d_bin rfl rfl (bin_add ..))) <| tS (v := (.ptr 0 (Int.toNat (IntKind.i64.wrap ((IntKind.i64.wrap (4 * vi_1)) + 3))))) (sv (d_ia rfl rfl (iaB ti72 ti5 rfl h_25))) <| tS (v := (eI .u8 x38)) (sv (d_load rfl (ldX (E := (eI .u8)) (y := x38) ti5 rfl rfl (aix_idx h_25)))) <| tS (sv (d_conv rfl (conv_int _ ⟨_, ti5⟩ ti22 rfl))) <| tS (sv (d_bin rfl rfl (bin_or ..))) ?_
    refine tS (v := (.ptr 2 (Int.toNat vi_1))) (sv (d_ia rfl rfl (iaB ti78 ti22 rfl h_26))) <| tN (h' := [some ⟨72, block.map (eI .u8)⟩, some ⟨78, (List.replicate 64 0).map (eI .u32)⟩, some ⟨78, (l2.set (Int.toNat vi_1) (bits .or .u32 (bits .or .u32 (bits .or .u32 x18 x25) x33) (IntKind.u32.wrap x38))).map (eI .u32)⟩]) (sv (d_store rfl rfl (stXe (E := (eI .u32)) (y := bits .or .u32 (bits .or .u32 (bits .or .u32 x18 x25) x33) (IntKind.u32.wrap x38)) ti22 rfl rfl (aix_idx h_26) rfl rfl rfl))) <| OpsTo.nil <| Ex.inBlock_mk <| Ex.then_mk <| AB.rw <| zm rfl ?_
    refine wS (v := (eI .i64 (IntKind.i64.wrap (vi_1 + 1)))) (sv (d_bin rfl rfl (bin_add ..))) <| za rfl <| zn ?_
    exact ⟨IntKind.i64.wrap (vi_1 + 1), l2.set (Int.toNat vi_1) (bits .or .u32 (bits .or .u32 (bits .or .u32 x18 x25) x33) (IntKind.u32.wrap x38)), hr4, (zG [0, 1, 2])⟩
  · replace hr4 := iteF hr4 h18
    refine AB.exit <| Ex.then_exit_mk <| Ex.then_exit_mk <| Ex.inBlock_same_mk ?_
    obtain rfl := Option.some.inj hr4
    refine Ex.then_mk ?_
    exact hG1 _ _ _ _ (zG [1, 2]) (J1 l2 hr)
set_option maxRecDepth 20000 in
set_option maxHeartbeats 1000000 in
theorem ref03_constants_ok (N : Nat) (r : (List Int)) (hr : ref03_constants N = some r) :
    Vm.Fn Tryd.prog 53 [] [] (.agg (r.map (eI .u32))) [] := by
  refine fn_ab Tryd.func53 rfl (by kernel_rfl) Tryd.ntmps53 zl rfl (fr := []) rfl ?_
  unfold ref03_constants at hr
  refine zq <| wS (v := (.ptr 0 0)) (h' := [some ⟨78, (List.replicate 64 0).map (eI .u32)⟩]) (sv (d_alloc ti78 rfl rfl rfl)) <| zn <| zq ?_
  refine wS (v := (.agg ([1116352408, 1899447441, 3049323471, 3921009573, 961987163, 1508970993, 2453635748, 2870763221, 3624381080, 310598401, 607225278, 1426881987, 1925078388, 2162078206, 2614888103, 3248222580, 3835390401, 4022224774, 264347078, 604807628, 770255983, 1249150122, 1555081692, 1996064986, 2554220882, 2821834349, 2952996808, 3210313671, 3336571891, 3584528711, 113926993, 338241895, 666307205, 773529912, 1294757372, 1396182291, 1695183700, 1986661051, 2177026350, 2456956037, 2730485921, 2820302411, 3259730800, 3345764771, 3516065817, 3600352804, 4094571909, 275423344, 430227734, 506948616, 659060556, 883997877, 958139571, 1322822218, 1537002063, 1747873779, 1955562222, 2024104815, 2227730452, 2361852424, 2428436474, 2756734187, 3204031479, 3329325298].map (eI .u32)))) (sv (d_build rfl (bldA ti78 ti22 rfl))) ?_
  refine wN (h' := [some ⟨78, [1116352408, 1899447441, 3049323471, 3921009573, 961987163, 1508970993, 2453635748, 2870763221, 3624381080, 310598401, 607225278, 1426881987, 1925078388, 2162078206, 2614888103, 3248222580, 3835390401, 4022224774, 264347078, 604807628, 770255983, 1249150122, 1555081692, 1996064986, 2554220882, 2821834349, 2952996808, 3210313671, 3336571891, 3584528711, 113926993, 338241895, 666307205, 773529912, 1294757372, 1396182291, 1695183700, 1986661051, 2177026350, 2456956037, 2730485921, 2820302411, 3259730800, 3345764771, 3516065817, 3600352804, 4094571909, 275423344, 430227734, 506948616, 659060556, 883997877, 958139571, 1322822218, 1537002063, 1747873779, 1955562222, 2024104815, 2227730452, 2361852424, 2428436474, 2756734187, 3204031479, 3329325298].map (eI .u32)⟩]) (sv (d_store rfl rfl (stA (E := (eI .u32)) (l := List.replicate 64 0) ti78 rfl rfl (fun _ => rfl) rfl rfl rfl))) ?_
  refine zn <| AB.ret ?_
  obtain rfl := Option.some.inj hr
  exact done_ret (r1 := (.agg ([1116352408, 1899447441, 3049323471, 3921009573, 961987163, 1508970993, 2453635748, 2870763221, 3624381080, 310598401, 607225278, 1426881987, 1925078388, 2162078206, 2614888103, 3248222580, 3835390401, 4022224774, 264347078, 604807628, 770255983, 1249150122, 1555081692, 1996064986, 2554220882, 2821834349, 2952996808, 3210313671, 3336571891, 3584528711, 113926993, 338241895, 666307205, 773529912, 1294757372, 1396182291, 1695183700, 1986661051, 2177026350, 2456956037, 2730485921, 2820302411, 3259730800, 3345764771, 3516065817, 3600352804, 4094571909, 275423344, 430227734, 506948616, 659060556, 883997877, 958139571, 1322822218, 1537002063, 1747873779, 1955562222, 2024104815, 2227730452, 2361852424, 2428436474, 2756734187, 3204031479, 3329325298].map (eI .u32)))) (res1 Tryd.results53 (rvC rfl (ldA (E := (eI .u32)) (l := [1116352408, 1899447441, 3049323471, 3921009573, 961987163, 1508970993, 2453635748, 2870763221, 3624381080, 310598401, 607225278, 1426881987, 1925078388, 2162078206, 2614888103, 3248222580, 3835390401, 4022224774, 264347078, 604807628, 770255983, 1249150122, 1555081692, 1996064986, 2554220882, 2821834349, 2952996808, 3210313671, 3336571891, 3584528711, 113926993, 338241895, 666307205, 773529912, 1294757372, 1396182291, 1695183700, 1986661051, 2177026350, 2456956037, 2730485921, 2820302411, 3259730800, 3345764771, 3516065817, 3600352804, 4094571909, 275423344, 430227734, 506948616, 659060556, 883997877, 958139571, 1322822218, 1537002063, 1747873779, 1955562222, 2024104815, 2227730452, 2361852424, 2428436474, 2756734187, 3204031479, 3329325298]) ti78 rfl rfl rfl))) (zG [])
set_option maxRecDepth 20000 in
set_option maxHeartbeats 1000000 in
theorem ref03_Compress_ok (N : Nat) (state : List Int) (block : List Int) (r : (List Int)) (hr : ref03_Compress N state block = some r) :
    Vm.Fn Tryd.prog 41 [] [(.agg (state.map (eI .u32))), (.agg (block.map (eI .u8)))] (.agg (r.map (eI .u32))) [] := by
  refine fn_ab Tryd.func41 rfl (by kernel_rfl) Tryd.ntmps41 zl rfl (fr := [(0, (.agg (state.map (eI .u32)))), (1, (.agg (block.map (eI .u8))))]) rfl ?_
  unfold ref03_Compress at hr
  refine zq <| wS (v := (.ptr 0 0)) (h' := [some ⟨70, state.map (eI .u32)⟩]) (sv (d_box rfl (flatA (fun _ => rfl)) rfl rfl)) <| wS (v := (.ptr 1 0)) (h' := [some ⟨70, state.map (eI .u32)⟩, some ⟨72, block.map (eI .u8)⟩]) (sv (d_box rfl (flatA (fun _ => rfl)) rfl rfl)) <| wS (v := (.ptr 2 0)) (h' := [some ⟨70, state.map (eI .u32)⟩, some ⟨72, block.map (eI .u8)⟩, some ⟨70, (List.replicate 8 0).map (eI .u32)⟩]) (sv (d_alloc ti70 rfl rfl rfl)) <| zn <| AB.seq ?_
  replace hr := bnd hr; obtain ⟨q, h_1, hr⟩ := hr
  replace hr := bnd hr; obtain ⟨x19, h_2, hr⟩ := hr
  replace hr := bnd hr; obtain ⟨x20, h_3, hr⟩ := hr
  replace hr := bnd hr; obtain ⟨q_1, h_4, hr⟩ := hr
  replace hr := bnd hr; obtain ⟨q_2, h_5, hr⟩ := hr
  refine AB.rw <| wS (v := (.agg (block.map (eI .u8)))) (sv (d_load rfl (ldA (E := (eI .u8)) (l := block) ti72 rfl rfl (arr_len h_1)))) <| wC rfl (Vm.Fn.pure (ref03_schedule_ok N block x19 h_2) zR zR) <| wC rfl (Vm.Fn.pure (ref03_constants_ok N x20 h_3) rfl zR) <| wS (v := (.ptr 3 0)) (h' := [some ⟨70, state.map (eI .u32)⟩, some ⟨72, block.map (eI .u8)⟩, some ⟨70, (List.replicate 8 0).map (eI .u32)⟩, some ⟨78, (List.replicate 64 0).map (eI .u32)⟩]) (sv (d_alloc ti78 rfl rfl rfl)) ?_
  refine wS (v := (.ptr 4 0)) (h' := [some ⟨70, state.map (eI .u32)⟩, some ⟨72, block.map (eI .u8)⟩, some ⟨70, (List.replicate 8 0).map (eI .u32)⟩, some ⟨78, (List.replicate 64 0).map (eI .u32)⟩, some ⟨78, (List.replicate 64 0).map (eI .u32)⟩]) (sv (d_alloc ti78 rfl rfl rfl)) <| wN (h' := [some ⟨70, state.map (eI .u32)⟩, some ⟨72, block.map (eI .u8)⟩, some ⟨70, (List.replicate 8 0).map (eI .u32)⟩, some ⟨78, x19.map (eI .u32)⟩, some ⟨78, (List.replicate 64 0).map (eI .u32)⟩]) (sv (d_store rfl rfl (stA (E := (eI .u32)) (l := List.replicate 64 0) ti78 rfl rfl (fun _ => rfl) rfl (arr_len h_4) rfl))) ?_
  refine wN (h' := [some ⟨70, state.map (eI .u32)⟩, some ⟨72, block.map (eI .u8)⟩, some ⟨70, (List.replicate 8 0).map (eI .u32)⟩, some ⟨78, x19.map (eI .u32)⟩, some ⟨78, x20.map (eI .u32)⟩]) (sv (d_store rfl rfl (stA (E := (eI .u32)) (l := List.replicate 64 0) ti78 rfl rfl (fun _ => rfl) rfl (arr_len h_5) rfl))) <| zn <| AB.seq ?_
  replace hr := bnd hr; obtain ⟨x21, h_6, hr⟩ := hr
  replace hr := bnd hr; obtain ⟨x23, h_7, hr⟩ := hr
  replace hr := bnd hr; obtain ⟨x25, h_8, hr⟩ := hr
  replace hr := bnd hr; obtain ⟨x27, h_9, hr⟩ := hr
  replace hr := bnd hr; obtain ⟨x29, h_10, hr⟩ := hr
  replace hr := bnd hr; obtain ⟨x31, h_11, hr⟩ := hr
  replace hr := bnd hr; obtain ⟨x33, h_12, hr⟩ := hr
  replace hr := bnd hr; obtain ⟨x35, h_13, hr⟩ := hr
  refine AB.rg E0 (fun _ => by show drawOk (fun _ => false) _ = true; decide +kernel) <| tS (v := (.ptr 0 (Int.toNat 0))) (sv (d_ia rfl rfl (iaB ti70 ti22 rfl h_6))) <| tS (v := (eI .u32 x21)) (sv (d_load rfl (ldX (E := (eI .u32)) (y := x21) ti22 rfl rfl (aix_idx h_6)))) <| tS (v := (.ptr 0 (Int.toNat 1))) (sv (d_ia rfl rfl (iaB ti70 ti22 rfl h_7))) <| tS (v := (eI .u32 x23)) (sv (d_load rfl (ldX (E := (eI .u32)) (y := x23) ti22 rfl rfl (aix_idx h_7)))) <| tS (v := (.ptr 0 (Int.toNat 2))) (sv (d_ia rfl rfl (iaB ti70 ti22 rfl h_8))) ?_
  refine tS (v := (eI .u32 x25)) (sv (d_load rfl (ldX (E := (eI .u32)) (y := x25) ti22 rfl rfl (aix_idx h_8)))) <| tS (v := (.ptr 0 (Int.toNat 3))) (sv (d_ia rfl rfl (iaB ti70 ti22 rfl h_9))) <| tS (v := (eI .u32 x27)) (sv (d_load rfl (ldX (E := (eI .u32)) (y := x27) ti22 rfl rfl (aix_idx h_9)))) <| tS (v := (.ptr 0 (Int.toNat 4))) (sv (d_ia rfl rfl (iaB ti70 ti22 rfl h_10))) <| tS (v := (eI .u32 x29)) (sv (d_load rfl (ldX (E := (eI .u32)) (y := x29) ti22 rfl rfl (aix_idx h_10)))) <| tS (v := (.ptr 0 (Int.toNat 5))) (sv (d_ia rfl rfl (iaB ti70 ti22 rfl h_11))) ?_
  refine tS (v := (eI .u32 x31)) (sv (d_load rfl (ldX (E := (eI .u32)) (y := x31) ti22 rfl rfl (aix_idx h_11)))) <| tS (v := (.ptr 0 (Int.toNat 6))) (sv (d_ia rfl rfl (iaB ti70 ti22 rfl h_12))) <| tS (v := (eI .u32 x33)) (sv (d_load rfl (ldX (E := (eI .u32)) (y := x33) ti22 rfl rfl (aix_idx h_12)))) <| tS (v := (.ptr 0 (Int.toNat 7))) (sv (d_ia rfl rfl (iaB ti70 ti22 rfl h_13))) <| tS (v := (eI .u32 x35)) (sv (d_load rfl (ldX (E := (eI .u32)) (y := x35) ti22 rfl rfl (aix_idx h_13)))) <| tS (sv (d_assign rfl)) <| tS (sv (d_assign rfl)) <| tS (sv (d_assign rfl)) <| tS (sv (d_assign rfl)) ?_
  refine tS (sv (d_assign rfl)) <| tS (sv (d_assign rfl)) <| tS (sv (d_assign rfl)) <| tS (sv (d_assign rfl)) <| OpsTo.nil <| Ex.then_mk ?_
  refine AB.seq_g fun K1 hK1 hG1 => ?_
  have J1 : ∀ (va : Int) (b : Int) (c : Int) (d : Int) (ve : Int) (f : Int) (g : Int) (vh : Int), ref03_Compress_J1 N state va b c d ve f g vh = some r → K1 (mkF 133 [(2, (.ptr 0 0)), (4, (.ptr 1 0)), (7, (eI .u32 va)), (8, (eI .u32 b)), (9, (eI .u32 c)), (10, (eI .u32 d)), (11, (eI .u32 ve)), (12, (eI .u32 f)), (13, (eI .u32 g)), (14, (eI .u32 vh))]) [some ⟨70, state.map (eI .u32)⟩, some ⟨70, (List.replicate 8 0).map (eI .u32)⟩] := by
    intro va b c d ve f g vh hr
    unfold ref03_Compress_J1 at hr
    refine hK1 _ _ <| AB.seq ?_
    replace hr := bnd hr; obtain ⟨x100, h_14, hr⟩ := hr
    replace hr := bnd hr; obtain ⟨x104, h_15, hr⟩ := hr
    replace hr := bnd hr; obtain ⟨x108, h_16, hr⟩ := hr
    replace hr := bnd hr; obtain ⟨x112, h_17, hr⟩ := hr
    replace hr := bnd hr; obtain ⟨x116, h_18, hr⟩ := hr
    replace hr := bnd hr; obtain ⟨x120, h_19, hr⟩ := hr
    replace hr := bnd hr; obtain ⟨x124, h_20, hr⟩ := hr
    replace hr := bnd hr; obtain ⟨x128, h_21, hr⟩ := hr
    refine AB.rw <| wS (v := (.ptr 0 (Int.toNat 0))) (sv (d_ia rfl rfl (iaB ti70 ti22 rfl h_14))) <| wS (v := (eI .u32 x100)) (sv (d_load rfl (ldX (E := (eI .u32)) (y := x100) ti22 rfl rfl (aix_idx h_14)))) <| zm rfl <| wS (sv (d_bin rfl rfl (bin_add ..))) <| wS (v := (.ptr 0 (Int.toNat 1))) (sv (d_ia rfl rfl (iaB ti70 ti22 rfl h_15))) <| wS (v := (eI .u32 x104)) (sv (d_load rfl (ldX (E := (eI .u32)) (y := x104) ti22 rfl rfl (aix_idx h_15)))) <| zm rfl <| wS (sv (d_bin rfl rfl (bin_add ..))) <| wS (v := (.ptr 0 (Int.toNat 2))) (sv (d_ia rfl rfl (iaB ti70 ti22 rfl h_16))) ?_
    refine wS (v := (eI .u32 x108)) (sv (d_load rfl (ldX (E := (eI .u32)) (y := x108) ti22 rfl rfl (aix_idx h_16)))) <| zm rfl <| wS (sv (d_bin rfl rfl (bin_add ..))) <| wS (v := (.ptr 0 (Int.toNat 3))) (sv (d_ia rfl rfl (iaB ti70 ti22 rfl h_17))) <| wS (v := (eI .u32 x112)) (sv (d_load rfl (ldX (E := (eI .u32)) (y := x112) ti22 rfl rfl (aix_idx h_17)))) <| zm rfl <| wS (sv (d_bin rfl rfl (bin_add ..))) <| wS (v := (.ptr 0 (Int.toNat 4))) (sv (d_ia rfl rfl (iaB ti70 ti22 rfl h_18))) <| wS (v := (eI .u32 x116)) (sv (d_load rfl (ldX (E := (eI .u32)) (y := x116) ti22 rfl rfl (aix_idx h_18)))) <| zm rfl ?_
    refine wS (sv (d_bin rfl rfl (bin_add ..))) <| wS (v := (.ptr 0 (Int.toNat 5))) (sv (d_ia rfl rfl (iaB ti70 ti22 rfl h_19))) <| wS (v := (eI .u32 x120)) (sv (d_load rfl (ldX (E := (eI .u32)) (y := x120) ti22 rfl rfl (aix_idx h_19)))) <| zm rfl <| wS (sv (d_bin rfl rfl (bin_add ..))) <| wS (v := (.ptr 0 (Int.toNat 6))) (sv (d_ia rfl rfl (iaB ti70 ti22 rfl h_20))) <| wS (v := (eI .u32 x124)) (sv (d_load rfl (ldX (E := (eI .u32)) (y := x124) ti22 rfl rfl (aix_idx h_20)))) <| zm rfl <| wS (sv (d_bin rfl rfl (bin_add ..))) <| wS (v := (.ptr 0 (Int.toNat 7))) (sv (d_ia rfl rfl (iaB ti70 ti22 rfl h_21))) ?_
    refine wS (v := (eI .u32 x128)) (sv (d_load rfl (ldX (E := (eI .u32)) (y := x128) ti22 rfl rfl (aix_idx h_21)))) <| zm rfl <| wS (sv (d_bin rfl rfl (bin_add ..))) <| wS (v := (.agg ([IntKind.u32.wrap (x100 + va), IntKind.u32.wrap (x104 + b), IntKind.u32.wrap (x108 + c), IntKind.u32.wrap (x112 + d), IntKind.u32.wrap (x116 + ve), IntKind.u32.wrap (x120 + f), IntKind.u32.wrap (x124 + g), IntKind.u32.wrap (x128 + vh)].map (eI .u32)))) (sv (d_build rfl (bldA ti70 ti22 rfl))) ?_
    refine wN (h' := [some ⟨70, state.map (eI .u32)⟩, some ⟨70, [IntKind.u32.wrap (x100 + va), IntKind.u32.wrap (x104 + b), IntKind.u32.wrap (x108 + c), IntKind.u32.wrap (x112 + d), IntKind.u32.wrap (x116 + ve), IntKind.u32.wrap (x120 + f), IntKind.u32.wrap (x124 + g), IntKind.u32.wrap (x128 + vh)].map (eI .u32)⟩]) (sv (d_store rfl rfl (stA (E := (eI .u32)) (l := List.replicate 8 0) ti70 rfl rfl (fun _ => rfl) rfl rfl rfl))) <| zn <| AB.ret ?_
    obtain rfl := Option.some.inj hr
    exact done_ret (r1 := (.agg ([IntKind.u32.wrap (x100 + va), IntKind.u32.wrap (x104 + b), IntKind.u32.wrap (x108 + c), IntKind.u32.wrap (x112 + d), IntKind.u32.wrap (x116 + ve), IntKind.u32.wrap (x120 + f), IntKind.u32.wrap (x124 + g), IntKind.u32.wrap (x128 + vh)].map (eI .u32)))) (res1 Tryd.results41 (rvC rfl (ldA (E := (eI .u32)) (l := [IntKind.u32.wrap (x100 + va), IntKind.u32.wrap (x104 + b), IntKind.u32.wrap (x108 + c), IntKind.u32.wrap (x112 + d), IntKind.u32.wrap (x116 + ve), IntKind.u32.wrap (x120 + f), IntKind.u32.wrap (x124 + g), IntKind.u32.wrap (x128 + vh)]) ti70 rfl rfl rfl))) (zG [])
  refine zq <| wS (v := (eI .i64 0)) (sv (d_assign rfl)) <| zn ?_
  replace hr := bnd hr; obtain ⟨res2, hL2, hr⟩ := hr
  refine AB.block ?_
  refine AB.loopN (fun m s h => ∃ (va_1 : Int) (b_1 : Int) (c_1 : Int) (d_1 : Int) (ve_1 : Int) (f_1 : Int) (g_1 : Int) (vh_1 : Int) (vi : Int), ref03_Compress_L2 N state x19 x20 m va_1 b_1 c_1 d_1 ve_1 f_1 g_1 vh_1 vi = some res2 ∧ Ghost 0 s h (mkF 133 [(2, (.ptr 0 0)), (4, (.ptr 1 0)), (5, (.ptr 2 0)), (6, (.ptr 3 0)), (7, (eI .u32 va_1)), (8, (eI .u32 b_1)), (9, (eI .u32 c_1)), (10, (eI .u32 d_1)), (11, (eI .u32 ve_1)), (12, (eI .u32 f_1)), (13, (eI .u32 g_1)), (14, (eI .u32 vh_1)), (15, (eI .i64 vi))]) [some ⟨70, state.map (eI .u32)⟩, some ⟨70, (List.replicate 8 0).map (eI .u32)⟩, some ⟨78, x19.map (eI .u32)⟩, some ⟨78, x20.map (eI .u32)⟩]) (n := N) ⟨x21, x23, x25, x27, x29, x31, x33, x35, 0, hL2, (zG [0, 2, 3, 4])⟩ (by rintro s h ⟨_, _, _, _, _, _, _, _, _, h0, _⟩; simp [ref03_Compress_L2] at h0) ?_
  rintro m2 s h ⟨va_1, b_1, c_1, d_1, ve_1, f_1, g_1, vh_1, vi, hr2, hg⟩
  refine AB.ghost hg ?_
  clear hg hL2
  rw [ref03_Compress_L2] at hr2
  refine AB.seq <| zq <| zm rfl <| wS (v := (eB (decide (vi < 64)))) (sv (d_bin rfl rfl (bin_lss ..))) <| zn ?_
  refine AB.cnd rfl (fun h22 => ?_) (fun h22 => ?_)
  · replace hr2 := iteT hr2 h22
    refine AB.skip <| Ex.then_mk <| AB.seq <| AB.block <| AB.seq ?_
    replace hr2 := bnd hr2; obtain ⟨x43, h_23, hr2⟩ := hr2
    replace hr2 := bnd hr2; obtain ⟨x45, h_25, hr2⟩ := hr2
    replace hr2 := bnd hr2; obtain ⟨x48, h_27, hr2⟩ := hr2
    replace hr2 := bnd hr2; obtain ⟨x61, h_29, hr2⟩ := hr2
    replace hr2 := bnd hr2; obtain ⟨x65, h_30, hr2⟩ := hr2
    refine AB.rd (memF [54]) (memF []) mixed <| DrawG.pick (n := 27) (i := 0) (by decide +kernel) rfl (gS (v := (eI .u32 vh_1)) (sv (d_move rfl))) <| DrawG.pick (n := 26) (i := 1) (by decide +kernel) rfl (gS (v := (eI .u32 ve_1)) (sv (d_move rfl))) ?_
    refine DrawG.pick (n := 25) (i := 2) (by decide +kernel) rfl (gC (v := (eI .u32 x43)) (h' := [some ⟨70, state.map (eI .u32)⟩, some ⟨70, (List.replicate 8 0).map (eI .u32)⟩, some ⟨78, x19.map (eI .u32)⟩, some ⟨78, x20.map (eI .u32)⟩]) (Vm.Fn.pure (ref03_rotr_ok N ve_1 6 x43 h_23) rfl rfl) (fun _ => rfl) (fun h => absurd h (by decide)) (sv (d_call rfl orc1_hit))) ?_
    refine DrawG.pick (n := 24) (i := 3) (by decide +kernel) rfl (gS (v := (eI .u32 ve_1)) (sv (d_move rfl))) ?_
    refine DrawG.pick (n := 23) (i := 4) (by decide +kernel) rfl (gC (v := (eI .u32 x45)) (h' := [some ⟨70, state.map (eI .u32)⟩, some ⟨70, (List.replicate 8 0).map (eI .u32)⟩, some ⟨78, x19.map (eI .u32)⟩, some ⟨78, x20.map (eI .u32)⟩]) (Vm.Fn.pure (ref03_rotr_ok N ve_1 11 x45 h_25) rfl rfl) (fun _ => rfl) (fun h => absurd h (by decide)) (sv (d_call rfl orc1_hit))) ?_
    refine DrawG.pick (n := 22) (i := 5) (by decide +kernel) rfl (gS (v := (eI .u32 (bits .xor .u32 x43 x45))) (sv (d_bin rfl rfl (bin_xor ..)))) <| DrawG.pick (n := 21) (i := 6) (by decide +kernel) rfl (gS (v := (eI .u32 ve_1)) (sv (d_move rfl))) ?_
    refine DrawG.pick (n := 20) (i := 7) (by decide +kernel) rfl (gC (v := (eI .u32 x48)) (h' := [some ⟨70, state.map (eI .u32)⟩, some ⟨70, (List.replicate 8 0).map (eI .u32)⟩, some ⟨78, x19.map (eI .u32)⟩, some ⟨78, x20.map (eI .u32)⟩]) (Vm.Fn.pure (ref03_rotr_ok N ve_1 25 x48 h_27) rfl rfl) (fun _ => rfl) (fun h => absurd h (by decide)) (sv (d_call rfl orc1_hit))) ?_
    refine DrawG.pick (n := 19) (i := 8) (by decide +kernel) rfl (gS (v := (eI .u32 (bits .xor .u32 (bits .xor .u32 x43 x45) x48))) (sv (d_bin rfl rfl (bin_xor ..)))) <| DrawG.pick (n := 18) (i := 9) (by decide +kernel) rfl (gS (v := (eI .u32 (IntKind.u32.wrap (vh_1 + (bits .xor .u32 (bits .xor .u32 x43 x45) x48))))) (sv (d_bin rfl rfl (bin_add ..)))) <| DrawG.pick (n := 17) (i := 10) (by decide +kernel) rfl (gS (v := (eI .u32 ve_1)) (sv (d_move rfl))) <| DrawG.pick (n := 16) (i := 11) (by decide +kernel) rfl (gS (v := (eI .u32 f_1)) (sv (d_move rfl))) ?_
    refine DrawG.pick (n := 15) (i := 12) (by decide +kernel) rfl (gS (v := (eI .u32 (bits .and .u32 ve_1 f_1))) (sv (d_bin rfl rfl (bin_and ..)))) <| DrawG.pick (n := 14) (i := 13) (by decide +kernel) rfl (gS (v := (eI .u32 ve_1)) (sv (d_move rfl))) <| DrawG.pick (n := 13) (i := 14) (by decide +kernel) rfl (gS (v := (eI .u32 (bits .xor .u32 (IntKind.max .u32) ve_1))) (sv (d_un rfl (un_xorU rfl _)))) <| DrawG.pick (n := 12) (i := 15) (by decide +kernel) rfl (gS (v := (eI .u32 g_1)) (sv (d_move rfl))) ?_
    refine DrawG.pick (n := 11) (i := 16) (by decide +kernel) rfl (gS (v := (eI .u32 (bits .and .u32 (bits .xor .u32 (IntKind.max .u32) ve_1) g_1))) (sv (d_bin rfl rfl (bin_and ..)))) <| DrawG.pick (n := 10) (i := 17) (by decide +kernel) rfl (gS (v := (eI .u32 (bits .xor .u32 (bits .and .u32 ve_1 f_1) (bits .and .u32 (bits .xor .u32 (IntKind.max .u32) ve_1) g_1)))) (sv (d_bin rfl rfl (bin_xor ..)))) ?_
    refine DrawG.pick (n := 9) (i := 18) (by decide +kernel) rfl (gS (v := (eI .u32 (IntKind.u32.wrap ((IntKind.u32.wrap (vh_1 + (bits .xor .u32 (bits .xor .u32 x43 x45) x48))) + (bits .xor .u32 (bits .and .u32 ve_1 f_1) (bits .and .u32 (bits .xor .u32 (IntKind.max .u32) ve_1) g_1)))))) (sv (d_bin rfl rfl (bin_add ..)))) <| DrawG.pick (n := 8) (i := 19) (by decide +kernel) rfl (gS (v := (eI .i64 vi)) (sv (d_move rfl))) <| DrawG.pick (n := 7) (i := 20) (by decide +kernel) rfl (gS (v := (.ptr 3 (Int.toNat vi))) (sv (d_ia rfl rfl (iaB ti78 ti22 rfl h_29)))) ?_
    refine DrawG.pick (n := 6) (i := 21) (by decide +kernel) rfl (gS (v := (eI .u32 x61)) (sv (d_load rfl (ldX (E := (eI .u32)) (y := x61) ti22 rfl rfl (aix_idx h_29))))) <| DrawG.pick (n := 5) (i := 22) (by decide +kernel) rfl (gS (v := (eI .u32 (IntKind.u32.wrap ((IntKind.u32.wrap ((IntKind.u32.wrap (vh_1 + (bits .xor .u32 (bits .xor .u32 x43 x45) x48))) + (bits .xor .u32 (bits .and .u32 ve_1 f_1) (bits .and .u32 (bits .xor .u32 (IntKind.max .u32) ve_1) g_1)))) + x61)))) (sv (d_bin rfl rfl (bin_add ..)))) ?_
    refine DrawG.pick (n := 4) (i := 23) (by decide +kernel) rfl (gS (v := (eI .i64 vi)) (sv (d_move rfl))) <| DrawG.pick (n := 3) (i := 24) (by decide +kernel) rfl (gS (v := (.ptr 2 (Int.toNat vi))) (sv (d_ia rfl rfl (iaB ti78 ti22 rfl h_30)))) <| DrawG.pick (n := 2) (i := 25) (by decide +kernel) rfl (gS (v := (eI .u32 x65)) (sv (d_load rfl (ldX (E := (eI .u32)) (y := x65) ti22 rfl rfl (aix_idx h_30))))) ?_
    refine DrawG.pick (n := 1) (i := 26) (by decide +kernel) rfl (gS (v := (eI .u32 (IntKind.u32.wrap ((IntKind.u32.wrap ((IntKind.u32.wrap ((IntKind.u32.wrap (vh_1 + (bits .xor .u32 (bits .xor .u32 x43 x45) x48))) + (bits .xor .u32 (bits .and .u32 ve_1 f_1) (bits .and .u32 (bits .xor .u32 (IntKind.max .u32) ve_1) g_1)))) + x61)) + x65)))) (sv (d_bin rfl rfl (bin_add ..)))) ?_
    refine DrawG.pick (n := 0) (i := 27) (by decide +kernel) rfl (gS (v := (eI .u32 (IntKind.u32.wrap ((IntKind.u32.wrap ((IntKind.u32.wrap ((IntKind.u32.wrap (vh_1 + (bits .xor .u32 (bits .xor .u32 x43 x45) x48))) + (bits .xor .u32 (bits .and .u32 ve_1 f_1) (bits .and .u32 (bits .xor .u32 (IntKind.max .u32) ve_1) g_1)))) + x61)) + x65)))) (sv (d_assign rfl))) <| DrawG.nil (by decide +kernel) <| Ex.then_mk <| AB.seq ?_
    replace hr2 := bnd hr2; obtain ⟨x69, h_31, hr2⟩ := hr2
    replace hr2 := bnd hr2; obtain ⟨x71, h_32, hr2⟩ := hr2
    replace hr2 := bnd hr2; obtain ⟨x74, h_33, hr2⟩ := hr2
    refine AB.rw <| zm rfl <| wC rfl (Vm.Fn.pure (ref03_rotr_ok N va_1 2 x69 h_31) rfl rfl) <| zm rfl <| wC rfl (Vm.Fn.pure (ref03_rotr_ok N va_1 13 x71 h_32) rfl rfl) <| wS (sv (d_bin rfl rfl (bin_xor ..))) <| zm rfl <| wC rfl (Vm.Fn.pure (ref03_rotr_ok N va_1 22 x74 h_33) rfl rfl) <| wS (sv (d_bin rfl rfl (bin_xor ..))) <| zm rfl <| zm rfl <| wS (sv (d_bin rfl rfl (bin_and ..))) <| zm rfl <| zm rfl <| wS (sv (d_bin rfl rfl (bin_and ..))) <| wS (sv (d_bin rfl rfl (bin_xor ..))) <| zm rfl <| zm rfl <| wS (sv (d_bin rfl rfl (bin_and ..))) <| wS (sv (d_bin rfl rfl (bin_xor ..))) ?_
    refine wS (sv (d_bin rfl rfl (bin_add ..))) <| za rfl <| zn <| AB.rw <| zm rfl <| zm rfl <| zm rfl <| zm rfl <| zm rfl <| wS (sv (d_bin rfl rfl (bin_add ..))) <| zm rfl <| zm rfl <| zm rfl <| zm rfl <| zm rfl <| wS (sv (d_bin rfl rfl (bin_add ..))) <| za rfl <| za rfl <| za rfl <| za rfl <| za rfl <| za rfl <| za rfl <| za rfl <| OpsW.nil <| Ex.inBlock_mk <| Ex.then_mk <| AB.rw <| zm rfl <| wS (v := (eI .i64 (IntKind.i64.wrap (vi + 1)))) (sv (d_bin rfl rfl (bin_add ..))) <| za rfl <| zn ?_
    exact ⟨IntKind.u32.wrap ((IntKind.u32.wrap ((IntKind.u32.wrap ((IntKind.u32.wrap ((IntKind.u32.wrap (vh_1 + (bits .xor .u32 (bits .xor .u32 x43 x45) x48))) + (bits .xor .u32 (bits .and .u32 ve_1 f_1) (bits .and .u32 (bits .xor .u32 (IntKind.max .u32) ve_1) g_1)))) + x61)) + x65)) + (IntKind.u32.wrap ((bits .xor .u32 (bits .xor .u32 x69 x71) x74) + (bits .xor .u32 (bits .xor .u32 (bits .and .u32 va_1 b_1) (bits .and .u32 va_1 c_1)) (bits .and .u32 b_1 c_1))))), va_1, b_1, c_1, IntKind.u32.wrap (d_1 + (IntKind.u32.wrap ((IntKind.u32.wrap ((IntKind.u32.wrap ((IntKind.u32.wrap (vh_1 + (bits .xor .u32 (bits .xor .u32 x43 x45) x48))) + (bits .xor .u32 (bits .and .u32 ve_1 f_1) (bits .and .u32 (bits .xor .u32 (IntKind.max .u32) ve_1) g_1)))) + x61)) + x65))), ve_1, f_1, g_1, IntKind.i64.wrap (vi + 1), hr2, (zG [0, 1, 2, 3])⟩
  · replace hr2 := iteF hr2 h22
    refine AB.exit <| Ex.then_exit_mk <| Ex.then_exit_mk <| Ex.inBlock_same_mk ?_
    obtain rfl := Option.some.inj hr2
    refine Ex.then_mk ?_
    exact hG1 _ _ _ _ (zG [0, 1]) (J1 va_1 b_1 c_1 d_1 ve_1 f_1 g_1 vh_1 hr)
end Go.Proofs.YtnoofjkaeidagaaDoor
