/- Texts of ours, joined: Wk1. -/
import Derived.Test.YtnoofjkaeidagaaDoorQSpendMessages4
set_option linter.unusedVariables false
set_option linter.unusedSimpArgs false
namespace Go.Proofs.YtnoofjkaeidagaaDoor
open Go Go.Vm
set_option maxRecDepth 20000 in
set_option maxHeartbeats 1000000 in
theorem codec_lowest_ok (N : Nat) (vn : Int) (width : Int) (r : (List Int)) (hr : codec_lowest N vn width = some r) :
    Vm.Fn Tryd.prog 47 [] [(eI .u64 vn), (eI .i64 width)] (.sl 0 0 r.length 1 false) [some ⟨5, r.map (eI .u8)⟩] := by
  refine fn_ab Tryd.func47 rfl (by kernel_rfl) Tryd.ntmps47 zl rfl (fr := [(0, (eI .u64 vn)), (1, (eI .i64 width))]) rfl ?_
  unfold codec_lowest at hr
  refine zq <| wS (v := (.row (some true) 1 [])) (sv (d_assign rfl)) <| zn <| AB.seq ?_
  replace hr := bnd hr; obtain ⟨x8, h_1, hr⟩ := hr
  refine AB.rw <| zm rfl <| wS (v := (.sl 0 0 x8.length 1 false)) (h' := [some ⟨5, x8.map (eI .u8)⟩]) (sv (d_mk rfl rfl (mkS (E := (eI .u8)) (y := 0) ti27 ti5 ⟨zl, rfl, rfl⟩ rfl rfl rfl h_1 rfl rfl))) <| za rfl <| zn ?_
  refine AB.seq_g fun K1 hK1 hG1 => ?_
  have J1 : ∀ (l0 : List Int), codec_lowest_J1 N l0 = some r → K1 (mkF 23 [(5, (.sl 0 0 l0.length 1 false))]) [some ⟨5, l0.map (eI .u8)⟩] := by
    intro l0 hr
    unfold codec_lowest_J1 at hr
    refine hK1 _ _ <| zq <| zm rfl <| za rfl <| zn <| AB.ret ?_
    obtain rfl := Option.some.inj hr
    exact done_ret (r1 := (.sl 0 0 l0.length 1 false)) (res1 Tryd.results47 (rvT rfl)) (zG [0])
  refine zq <| zm rfl <| wS (v := (eI .i64 0)) (sv (d_move rfl)) <| zn ?_
  replace hr := bnd hr; obtain ⟨res2, hL2, hr⟩ := hr
  refine AB.block <| AB.loopN (fun m s h => ∃ (x10 : Int) (l0_1 : List Int), codec_lowest_L2 N vn width m x10 l0_1 = some res2 ∧ Ghost 0 s h (mkF 23 [(0, (eI .u64 vn)), (5, (.sl 0 0 l0_1.length 1 false)), (9, (eI .i64 width)), (10, (eI .i64 x10))]) [some ⟨5, l0_1.map (eI .u8)⟩]) (n := N) ⟨0, x8, hL2, (zG [0])⟩ (by rintro s h ⟨_, _, h0, _⟩; simp [codec_lowest_L2] at h0) ?_
  rintro m2 s h ⟨x10, l0_1, hr2, hg⟩
  refine AB.ghost hg ?_
  clear hg hL2
  rw [codec_lowest_L2] at hr2
  refine zq <| wS (sv (d_bin rfl rfl (bin_lss ..))) <| zn <| AB.seq ?_
  refine AB.cnd rfl (fun h2 => ?_) (fun h2 => ?_)
  · replace hr2 := iteT hr2 h2
    refine AB.skip <| Ex.then_mk <| AB.seq <| AB.block <| zq <| zm rfl <| za rfl <| zn ?_
    replace hr2 := bnd hr2; obtain ⟨x18, h_3, hr2⟩ := hr2
    replace hr2 := bnd hr2; obtain ⟨x20, h_4, hr2⟩ := hr2
    refine AB.rw <| zm rfl <| zm rfl <| zm rfl <| zm rfl <| wS (v := (eI .i64 (IntKind.i64.wrap (8 * x10)))) (sv (d_bin rfl rfl (bin_mul ..))) <| wS (sv (d_bin rfl rfl (bin_shr' _ _ _ _ h_3))) <| wS (sv (d_conv rfl (conv_int _ ⟨_, ti65⟩ ti5 rfl))) <| wS (v := (.ptr 0 (Int.toNat x10))) (sv (d_ia rfl rfl (iaS rfl ti27 ti5 rfl h_4))) <| wN (h' := [some ⟨5, (l0_1.set (Int.toNat x10) (IntKind.u8.wrap x18)).map (eI .u8)⟩]) (sv (d_store rfl rfl (stXe (E := (eI .u8)) (y := IntKind.u8.wrap x18) ti5 rfl rfl h_4 rfl rfl rfl))) <| OpsW.nil <| Ex.inBlock_mk <| Ex.then_mk <| AB.rw ?_
    refine wS (v := (eI .i64 (IntKind.i64.wrap (x10 + 1)))) (sv (d_bin rfl rfl (bin_add ..))) <| zm rfl <| zn ?_
    exact ⟨IntKind.i64.wrap (x10 + 1), l0_1.set (Int.toNat x10) (IntKind.u8.wrap x18), hr2, (Ghost.rn [0] rfl rfl (FLe.same rfl (FLe.le rfl (by first | exact V.le_refl _ _ | (simp only [len_set, len_cpy]; exact V.le_refl _ _)) (FLe.same rfl (FLe.same rfl FLe.nil)))) (HLe.live rfl (les_map (fun _ => rfl) _) (all_map (fun _ => rfl) _) HLe.nil) rfl)⟩
  · replace hr2 := iteF hr2 h2
    refine AB.exit <| Ex.then_exit_mk <| Ex.then_exit_mk <| Ex.inBlock_same_mk ?_
    obtain rfl := Option.some.inj hr2
    refine Ex.then_mk ?_
    exact hG1 _ _ _ _ (zG [0]) (J1 l0_1 hr)
set_option maxRecDepth 20000 in
set_option maxHeartbeats 1000000 in
theorem codec_extend_ok (N : Nat) (b : List Int) (vs : List Int) (r : (List Int)) (hr : codec_extend N b vs = some r) :
    Vm.Fn Tryd.prog 46 [] [(.row none 1 (b.map (eI .u8))), (.row none 1 (vs.map (eI .u8)))] (.sl 0 0 r.length 1 false) [some ⟨5, r.map (eI .u8)⟩] := by
  refine fn_ab Tryd.func46 rfl (by kernel_rfl) Tryd.ntmps46 zl rfl (fr := [(0, (.row none 1 (b.map (eI .u8)))), (1, (.row none 1 (vs.map (eI .u8))))]) rfl ?_
  unfold codec_extend at hr
  refine zq <| wS (v := (.row (some true) 1 [])) (sv (d_assign rfl)) <| zn <| AB.seq ?_
  replace hr := bnd hr; obtain ⟨x11, h_1, hr⟩ := hr
  refine AB.rw <| zm rfl <| wS (v := (eI .i64 (b.length : Int))) (sv (d_len rfl (lenR ti27))) <| zm rfl <| wS (v := (eI .i64 (vs.length : Int))) (sv (d_len rfl (lenR ti27))) <| wS (sv (d_bin rfl rfl (bin_add ..))) <| wS (v := (.sl 0 0 0 1 false)) (h' := [some ⟨5, x11.map (eI .u8)⟩]) (sv (d_mk rfl rfl (mkC (E := (eI .u8)) (y := 0) ti27 ti5 ⟨zl, rfl, rfl⟩ rfl rfl rfl h_1 rfl rfl))) <| za rfl <| zn <| AB.seq ?_
  replace hr := bnd hr; obtain ⟨x14, h_2, hr⟩ := hr
  refine AB.rw <| zm rfl <| zm rfl <| wS (v := (.sl 1 0 x14.length 1 false)) (h' := [none, some ⟨5, x14.map (eI .u8)⟩]) (sv (d_append rfl rfl (appP (E := (eI .u8)) (Nat.zero_le _) ti27 ti5 ⟨rfl, rfl, zl⟩ rfl (srcR (fun _ => rfl)) h_2 rfl rfl))) <| za rfl <| zn <| AB.seq ?_
  replace hr := bnd hr; obtain ⟨x17, h_3, hr⟩ := hr
  refine AB.rw <| zm rfl <| zm rfl <| wS (v := (.sl 2 0 x17.length 1 false)) (h' := [none, none, some ⟨5, x17.map (eI .u8)⟩]) (sv (d_append rfl rfl (appS (E := (eI .u8)) rfl ti27 ti5 ⟨rfl, rfl, zl⟩ rfl (srcR (fun _ => rfl)) h_3 rfl rfl))) <| za rfl <| zn <| AB.ret ?_
  obtain rfl := Option.some.inj hr
  exact done_ret (r1 := (.sl 2 0 x17.length 1 false)) (res1 Tryd.results46 (rvT rfl)) (zG [2])
set_option maxRecDepth 20000 in
set_option maxHeartbeats 1000000 in
theorem codec_AppendU32_ok (N : Nat) (b : List Int) (vn : Int) (r : (List Int)) (hr : codec_AppendU32 N b vn = some r) :
    Vm.Fn Tryd.prog 28 [] [(.row none 1 (b.map (eI .u8))), (eI .u32 vn)] (.sl 0 0 r.length 1 false) [some ⟨5, r.map (eI .u8)⟩] := by
  refine fn_ab Tryd.func28 rfl (by kernel_rfl) Tryd.ntmps28 zl rfl (fr := [(0, (.row none 1 (b.map (eI .u8)))), (1, (eI .u32 vn))]) rfl ?_
  unfold codec_AppendU32 at hr
  refine zq <| wS (v := (.row (some true) 1 [])) (sv (d_assign rfl)) <| zn <| AB.seq ?_
  replace hr := bnd hr; obtain ⟨x8, h_1, hr⟩ := hr
  replace hr := bnd hr; obtain ⟨x9, h_2, hr⟩ := hr
  refine AB.rw <| zm rfl <| zm rfl <| wS (sv (d_conv rfl (conv_int _ ⟨_, ti22⟩ ti65 rfl))) <| wC (v := (.sl 0 0 x8.length 1 false)) (h' := [some ⟨5, x8.map (eI .u8)⟩]) rfl (zB (codec_lowest_ok N (IntKind.u64.wrap vn) 4 x8 h_1) []) <| wC (v := (.sl 1 0 x9.length 1 false)) (h' := [some ⟨5, x8.map (eI .u8)⟩, some ⟨5, x9.map (eI .u8)⟩]) rfl (zL (codec_extend_ok N b x8 x9 h_2) [] [0]) <| za rfl <| zn <| AB.ret ?_
  obtain rfl := Option.some.inj hr
  exact done_ret (r1 := (.sl 1 0 x9.length 1 false)) (res1 Tryd.results28 (rvT rfl)) (zG [1])
set_option maxRecDepth 20000 in
set_option maxHeartbeats 1000000 in
theorem codec_AppendU16_ok (N : Nat) (b : List Int) (vn : Int) (r : (List Int)) (hr : codec_AppendU16 N b vn = some r) :
    Vm.Fn Tryd.prog 56 [] [(.row none 1 (b.map (eI .u8))), (eI .u16 vn)] (.sl 0 0 r.length 1 false) [some ⟨5, r.map (eI .u8)⟩] := by
  refine fn_ab Tryd.func56 rfl (by kernel_rfl) Tryd.ntmps56 zl rfl (fr := [(0, (.row none 1 (b.map (eI .u8)))), (1, (eI .u16 vn))]) rfl ?_
  unfold codec_AppendU16 at hr
  refine zq <| wS (v := (.row (some true) 1 [])) (sv (d_assign rfl)) <| zn <| AB.seq ?_
  replace hr := bnd hr; obtain ⟨x8, h_1, hr⟩ := hr
  replace hr := bnd hr; obtain ⟨x9, h_2, hr⟩ := hr
  refine AB.rw <| zm rfl <| zm rfl <| wS (sv (d_conv rfl (conv_int _ ⟨_, ti84⟩ ti65 rfl))) <| wC (v := (.sl 0 0 x8.length 1 false)) (h' := [some ⟨5, x8.map (eI .u8)⟩]) rfl (zB (codec_lowest_ok N (IntKind.u64.wrap vn) 2 x8 h_1) []) <| wC (v := (.sl 1 0 x9.length 1 false)) (h' := [some ⟨5, x8.map (eI .u8)⟩, some ⟨5, x9.map (eI .u8)⟩]) rfl (zL (codec_extend_ok N b x8 x9 h_2) [] [0]) <| za rfl <| zn <| AB.ret ?_
  obtain rfl := Option.some.inj hr
  exact done_ret (r1 := (.sl 1 0 x9.length 1 false)) (res1 Tryd.results56 (rvT rfl)) (zG [1])
set_option maxRecDepth 20000 in
set_option maxHeartbeats 1000000 in
theorem codec_AppendU64_ok (N : Nat) (b : List Int) (vn : Int) (r : (List Int)) (hr : codec_AppendU64 N b vn = some r) :
    Vm.Fn Tryd.prog 30 [] [(.row none 1 (b.map (eI .u8))), (eI .u64 vn)] (.sl 0 0 r.length 1 false) [some ⟨5, r.map (eI .u8)⟩] := by
  refine fn_ab Tryd.func30 rfl (by kernel_rfl) Tryd.ntmps30 zl rfl (fr := [(0, (.row none 1 (b.map (eI .u8)))), (1, (eI .u64 vn))]) rfl ?_
  unfold codec_AppendU64 at hr
  refine zq <| wS (v := (.row (some true) 1 [])) (sv (d_assign rfl)) <| zn <| AB.seq ?_
  replace hr := bnd hr; obtain ⟨x7, h_1, hr⟩ := hr
  replace hr := bnd hr; obtain ⟨x8, h_2, hr⟩ := hr
  refine AB.rw <| zm rfl <| zm rfl <| wC (v := (.sl 0 0 x7.length 1 false)) (h' := [some ⟨5, x7.map (eI .u8)⟩]) rfl (zB (codec_lowest_ok N vn 8 x7 h_1) []) <| wC (v := (.sl 1 0 x8.length 1 false)) (h' := [some ⟨5, x7.map (eI .u8)⟩, some ⟨5, x8.map (eI .u8)⟩]) rfl (zL (codec_extend_ok N b x7 x8 h_2) [] [0]) <| za rfl <| zn <| AB.ret ?_
  obtain rfl := Option.some.inj hr
  exact done_ret (r1 := (.sl 1 0 x8.length 1 false)) (res1 Tryd.results30 (rvT rfl)) (zG [1])
set_option maxRecDepth 20000 in
set_option maxHeartbeats 1000000 in
theorem codec_AppendSize_ok (N : Nat) (b : List Int) (vn : Int) (r : (List Int)) (hr : codec_AppendSize N b vn = some r) :
    Vm.Fn Tryd.prog 48 [] [(.row none 1 (b.map (eI .u8))), (eI .u64 vn)] (.sl 0 0 r.length 1 false) [some ⟨5, r.map (eI .u8)⟩] := by
  refine fn_ab Tryd.func48 rfl (by kernel_rfl) Tryd.ntmps48 zl rfl (fr := [(0, (.row none 1 (b.map (eI .u8)))), (1, (eI .u64 vn))]) rfl ?_
  unfold codec_AppendSize at hr
  refine zq <| wS (v := (.row (some true) 1 [])) (sv (d_assign rfl)) <| zn <| AB.seq <| AB.block <| zq <| zm rfl <| wS (v := (eB (decide (vn < 253)))) (sv (d_bin rfl rfl (bin_lss ..))) <| za rfl <| zn ?_
  refine AB.cnd rfl (fun h1 => ?_) (fun h1 => ?_)
  · replace hr := iteT hr h1
    refine AB.seq ?_
    replace hr := bnd hr; obtain ⟨x12, h_2, hr⟩ := hr
    refine AB.rw <| zm rfl <| zm rfl <| wS (sv (d_conv rfl (conv_int _ ⟨_, ti65⟩ ti5 rfl))) <| wS (v := (.sl 0 0 1 1 false)) (h' := [some ⟨5, [IntKind.u8.wrap vn].map (eI .u8)⟩]) (sv (d_buildS rfl (bldL1 (xs := [IntKind.u8.wrap vn].map (eI .u8)) ti27 ti5 zl zl rfl rfl rfl rfl rfl rfl rfl))) <| wC (v := (.sl 1 0 x12.length 1 false)) (h' := [some ⟨5, [IntKind.u8.wrap vn].map (eI .u8)⟩, some ⟨5, x12.map (eI .u8)⟩]) rfl (zL (codec_extend_ok N b [IntKind.u8.wrap vn] x12 h_2) [] [0]) <| za rfl <| zn <| AB.ret <| Ex.inBlock_ret_mk <| Ex.then_ret_mk ?_
    obtain rfl := Option.some.inj hr
    exact done_ret (r1 := (.sl 1 0 x12.length 1 false)) (res1 Tryd.results48 (rvT rfl)) (zG [1])
  · replace hr := iteF hr h1
    refine zq <| zm rfl <| wS (v := (eB (decide (vn < 65536)))) (sv (d_bin rfl rfl (bin_lss ..))) <| za rfl <| zn ?_
    refine AB.cnd rfl (fun h3 => ?_) (fun h3 => ?_)
    · replace hr := iteT hr h3
      refine AB.seq ?_
      replace hr := bnd hr; obtain ⟨x18, h_4, hr⟩ := hr
      replace hr := bnd hr; obtain ⟨x21, h_5, hr⟩ := hr
      refine AB.rw <| zm rfl <| wS (v := (.sl 0 0 1 1 false)) (h' := [some ⟨5, [253].map (eI .u8)⟩]) (sv (d_buildS rfl (bldL1 (xs := [253].map (eI .u8)) ti27 ti5 zl zl rfl rfl rfl rfl rfl rfl rfl))) <| wC (v := (.sl 1 0 x18.length 1 false)) (h' := [some ⟨5, [253].map (eI .u8)⟩, some ⟨5, x18.map (eI .u8)⟩]) rfl (zL (codec_extend_ok N b [253] x18 h_4) [] [0]) <| zm rfl <| wS (sv (d_conv rfl (conv_int _ ⟨_, ti65⟩ ti84 rfl))) ?_
      refine wC (v := (.sl 2 0 x21.length 1 false)) (h' := [some ⟨5, [253].map (eI .u8)⟩, some ⟨5, x18.map (eI .u8)⟩, some ⟨5, x21.map (eI .u8)⟩]) rfl (zL (codec_AppendU16_ok N x18 (IntKind.u16.wrap vn) x21 h_5) [] [1]) <| za rfl <| zn <| AB.ret <| Ex.inBlock_ret_mk <| Ex.then_ret_mk ?_
      obtain rfl := Option.some.inj hr
      exact done_ret (r1 := (.sl 2 0 x21.length 1 false)) (res1 Tryd.results48 (rvT rfl)) (zG [2])
    · replace hr := iteF hr h3
      refine zq <| zm rfl <| wS (v := (eB (decide (vn < 4294967296)))) (sv (d_bin rfl rfl (bin_lss ..))) <| za rfl <| zn ?_
      refine AB.cnd rfl (fun h6 => ?_) (fun h6 => ?_)
      · replace hr := iteT hr h6
        refine AB.seq ?_
        replace hr := bnd hr; obtain ⟨x27, h_7, hr⟩ := hr
        replace hr := bnd hr; obtain ⟨x30, h_8, hr⟩ := hr
        refine AB.rw <| zm rfl <| wS (v := (.sl 0 0 1 1 false)) (h' := [some ⟨5, [254].map (eI .u8)⟩]) (sv (d_buildS rfl (bldL1 (xs := [254].map (eI .u8)) ti27 ti5 zl zl rfl rfl rfl rfl rfl rfl rfl))) <| wC (v := (.sl 1 0 x27.length 1 false)) (h' := [some ⟨5, [254].map (eI .u8)⟩, some ⟨5, x27.map (eI .u8)⟩]) rfl (zL (codec_extend_ok N b [254] x27 h_7) [] [0]) <| zm rfl <| wS (sv (d_conv rfl (conv_int _ ⟨_, ti65⟩ ti22 rfl))) ?_
        refine wC (v := (.sl 2 0 x30.length 1 false)) (h' := [some ⟨5, [254].map (eI .u8)⟩, some ⟨5, x27.map (eI .u8)⟩, some ⟨5, x30.map (eI .u8)⟩]) rfl (zL (codec_AppendU32_ok N x27 (IntKind.u32.wrap vn) x30 h_8) [] [1]) <| za rfl <| zn <| AB.ret <| Ex.inBlock_ret_mk <| Ex.then_ret_mk ?_
        obtain rfl := Option.some.inj hr
        exact done_ret (r1 := (.sl 2 0 x30.length 1 false)) (res1 Tryd.results48 (rvT rfl)) (zG [2])
      · replace hr := iteF hr h6
        refine AB.skip <| Ex.inBlock_mk <| Ex.then_mk <| AB.seq ?_
        replace hr := bnd hr; obtain ⟨x33, h_9, hr⟩ := hr
        replace hr := bnd hr; obtain ⟨x35, h_10, hr⟩ := hr
        refine AB.rw <| zm rfl <| wS (v := (.sl 0 0 1 1 false)) (h' := [some ⟨5, [255].map (eI .u8)⟩]) (sv (d_buildS rfl (bldL1 (xs := [255].map (eI .u8)) ti27 ti5 zl zl rfl rfl rfl rfl rfl rfl rfl))) <| wC (v := (.sl 1 0 x33.length 1 false)) (h' := [some ⟨5, [255].map (eI .u8)⟩, some ⟨5, x33.map (eI .u8)⟩]) rfl (zL (codec_extend_ok N b [255] x33 h_9) [] [0]) <| zm rfl <| wC (v := (.sl 2 0 x35.length 1 false)) (h' := [some ⟨5, [255].map (eI .u8)⟩, some ⟨5, x33.map (eI .u8)⟩, some ⟨5, x35.map (eI .u8)⟩]) rfl (zL (codec_AppendU64_ok N x33 vn x35 h_10) [] [1]) <| za rfl <| zn <| AB.ret ?_
        obtain rfl := Option.some.inj hr
        exact done_ret (r1 := (.sl 2 0 x35.length 1 false)) (res1 Tryd.results48 (rvT rfl)) (zG [2])
set_option maxRecDepth 20000 in
set_option maxHeartbeats 1000000 in
theorem codec_AppendHash_ok (N : Nat) (b : List Int) (vh : List Int) (r : (List Int)) (hr : codec_AppendHash N b vh = some r) :
    Vm.Fn Tryd.prog 29 [] [(.row none 1 (b.map (eI .u8))), (.agg (vh.map (eI .u8)))] (.sl 0 0 r.length 1 false) [some ⟨5, r.map (eI .u8)⟩] := by
  refine fn_ab Tryd.func29 rfl (by kernel_rfl) Tryd.ntmps29 zl rfl (fr := [(0, (.row none 1 (b.map (eI .u8)))), (1, (.agg (vh.map (eI .u8))))]) rfl ?_
  unfold codec_AppendHash at hr
  refine zq <| wS (v := (.ptr 0 0)) (h' := [some ⟨33, vh.map (eI .u8)⟩]) (sv (d_box rfl (flatA (fun _ => rfl)) rfl rfl)) <| wS (v := (.row (some true) 1 [])) (sv (d_assign rfl)) <| zn <| AB.seq ?_
  replace hr := bnd hr; obtain ⟨q, h_1, hr⟩ := hr
  replace hr := bnd hr; obtain ⟨x7, h_2, hr⟩ := hr
  refine AB.rw <| zm rfl <| wS (v := (.sl 0 0 32 1 false)) (sv (d_slice rfl rfl rfl (slA (E := (eI .u8)) (l := vh) ti33 ti5 rfl rfl rfl (arr_len h_1) ⟨zl, zl⟩))) <| wC (v := (.sl 1 0 x7.length 1 false)) (h' := [some ⟨33, vh.map (eI .u8)⟩, some ⟨5, x7.map (eI .u8)⟩]) rfl (Vm.Fn.lendR (codec_extend_ok N b vh x7 h_2) [] [0] (by decide) rfl (by decide) Lend.nil (Brw.same rfl (Brw.row (exp_slT (arr_len h_1) rfl (fun _ => rfl)) Brw.nil)) rfl (rfB.live (rfs_map (fun _ => rfl) _) rfB.nil) rfl zH) <| za rfl <| zn <| AB.ret ?_
  obtain rfl := Option.some.inj hr
  exact done_ret (r1 := (.sl 1 0 x7.length 1 false)) (res1 Tryd.results29 (rvT rfl)) (zG [1])
set_option maxRecDepth 20000 in
set_option maxHeartbeats 1000000 in
theorem tx_Point_ok (N : Nat) (o_Tx : List Int) (o_Index : Int) (r : (List Int)) (hr : tx_Point N o_Tx o_Index = some r) :
    Vm.Fn Tryd.prog 12 [] [(.agg (ar32 (eI .u8) o_Tx [(eI .u32 o_Index)]))] (.sl 0 0 r.length 1 false) [some ⟨5, r.map (eI .u8)⟩] := by
  refine fn_ab Tryd.func12 rfl (by kernel_rfl) Tryd.ntmps12 zl rfl (fr := [(0, (.agg (ar32 (eI .u8) o_Tx [(eI .u32 o_Index)])))]) rfl ?_
  unfold tx_Point at hr
  refine zq <| wS (v := (.ptr 0 0)) (h' := [some ⟨39, (ar32 (eI .u8) o_Tx [(eI .u32 o_Index)])⟩]) (sv (d_box rfl rfl rfl rfl)) <| wS (v := (.row (some true) 1 [])) (sv (d_assign rfl)) <| zn <| AB.seq ?_
  replace hr := bnd hr; obtain ⟨q, h_1, hr⟩ := hr
  replace hr := bnd hr; obtain ⟨x5, h_2, hr⟩ := hr
  replace hr := bnd hr; obtain ⟨x8, h_4, hr⟩ := hr
  refine AB.rd (memF []) (memF [28, 29]) mixed <| DrawG.pick (n := 6) (i := 0) (by decide +kernel) rfl (gS (v := (.ptr 0 0)) (sv (d_fa rfl (fap39_0 ..)))) <| DrawG.pick (n := 5) (i := 1) (by decide +kernel) rfl (gS (v := (.agg (o_Tx.map (eI .u8)))) (sv (d_load rfl (ldP rfl (to32 (arr_len h_1) (partN (ds := (ar32 (eI .u8) o_Tx [])) ti33 rfl zl rfl)))))) ?_
  refine DrawG.pick (n := 4) (i := 2) (by decide +kernel) rfl (gC (v := (.sl 1 0 x5.length 1 false)) (h' := [some ⟨39, (ar32 (eI .u8) o_Tx [(eI .u32 o_Index)])⟩, some ⟨5, x5.map (eI .u8)⟩]) (Vm.Fn.argsLe (zB (codec_AppendHash_ok N [] o_Tx x5 h_2) []) (V.les_cons V.le_nil (V.les_cons (V.le_refl _ _) V.les_nil))) (fun h => absurd h (by decide)) (fun _ => ⟨_, rfl⟩) (sv (d_call rfl orc1_hit))) ?_
  refine DrawG.pick (n := 3) (i := 3) (by decide +kernel) rfl (gS (v := (.ptr 0 32)) (sv (d_fa rfl (fap39_1 ..)))) <| DrawG.pick (n := 2) (i := 4) (by decide +kernel) rfl (gS (v := (eI .u32 o_Index)) (sv (d_load rfl (ldP rfl (part1 ti22 rfl rfl))))) ?_
  refine DrawG.pick (n := 1) (i := 5) (by decide +kernel) rfl (gC (v := (.sl 2 0 x8.length 1 false)) (h' := [some ⟨39, (ar32 (eI .u8) o_Tx [(eI .u32 o_Index)])⟩, some ⟨5, x5.map (eI .u8)⟩, some ⟨5, x8.map (eI .u8)⟩]) (zL (codec_AppendU32_ok N x5 o_Index x8 h_4) [] [1]) (fun h => absurd h (by decide)) (fun _ => ⟨_, rfl⟩) (sv (d_call rfl orc1_hit))) ?_
  refine DrawG.pick (n := 0) (i := 6) (by decide +kernel) rfl (gS (v := (.sl 2 0 x8.length 1 false)) (sv (d_assign rfl))) <| DrawG.nil (by decide +kernel) <| Ex.then_mk <| AB.ret ?_
  obtain rfl := Option.some.inj hr
  exact done_ret (r1 := (.sl 2 0 x8.length 1 false)) (res1 Tryd.results12 (rvT rfl)) (zG [2])
set_option maxRecDepth 20000 in
set_option maxHeartbeats 1000000 in
theorem codec_AppendBytes_ok (N : Nat) (b : List Int) (vs : List Int) (r : (List Int)) (hr : codec_AppendBytes N b vs = some r) :
    Vm.Fn Tryd.prog 31 [] [(.row none 1 (b.map (eI .u8))), (.row none 1 (vs.map (eI .u8)))] (.sl 0 0 r.length 1 false) [some ⟨5, r.map (eI .u8)⟩] := by
  refine fn_ab Tryd.func31 rfl (by kernel_rfl) Tryd.ntmps31 zl rfl (fr := [(0, (.row none 1 (b.map (eI .u8)))), (1, (.row none 1 (vs.map (eI .u8))))]) rfl ?_
  unfold codec_AppendBytes at hr
  refine zq <| wS (v := (.row (some true) 1 [])) (sv (d_assign rfl)) <| zn <| AB.seq ?_
  replace hr := bnd hr; obtain ⟨x9, h_1, hr⟩ := hr
  replace hr := bnd hr; obtain ⟨x11, h_2, hr⟩ := hr
  refine AB.rw <| zm rfl <| zm rfl <| wS (v := (eI .i64 (vs.length : Int))) (sv (d_len rfl (lenR ti27))) <| wS (sv (d_conv rfl (conv_int _ ⟨_, ti3⟩ ti65 rfl))) <| wC (v := (.sl 0 0 x9.length 1 false)) (h' := [some ⟨5, x9.map (eI .u8)⟩]) rfl (zB (codec_AppendSize_ok N b (IntKind.u64.wrap (vs.length : Int)) x9 h_1) []) <| zm rfl <| wC (v := (.sl 1 0 x11.length 1 false)) (h' := [some ⟨5, x9.map (eI .u8)⟩, some ⟨5, x11.map (eI .u8)⟩]) rfl (zL (codec_extend_ok N x9 vs x11 h_2) [] [0]) <| za rfl <| zn <| AB.ret ?_
  obtain rfl := Option.some.inj hr
  exact done_ret (r1 := (.sl 1 0 x11.length 1 false)) (res1 Tryd.results31 (rvT rfl)) (zG [1])
set_option maxRecDepth 20000 in
set_option maxHeartbeats 1000000 in
theorem tx_encode_ok (N : Nat) (t_Version : Int) (t_Inputs : List S_api_Input) (t_Outputs : List S_api_Output) (t_Lock : Int) (witness : Bool) (r : (List Int)) (hr : tx_encode N t_Version t_Inputs t_Outputs t_Lock witness = some r) :
    Vm.Fn Tryd.prog 45 [] [(.agg [(eI .u32 t_Version), (.row none 35 (t_Inputs.map E_api_Input)), (.row none 2 (t_Outputs.map E_api_Output)), (eI .u32 t_Lock)]), (eB witness)] (.sl 0 0 r.length 1 false) [some ⟨5, r.map (eI .u8)⟩] := by
  refine fn_ab Tryd.func45 rfl (by kernel_rfl) Tryd.ntmps45 zl rfl (fr := [(0, (.agg [(eI .u32 t_Version), (.row none 35 (t_Inputs.map E_api_Input)), (.row none 2 (t_Outputs.map E_api_Output)), (eI .u32 t_Lock)])), (1, (eB witness))]) rfl ?_
  unfold tx_encode at hr
  refine zq <| wS (v := (.ptr 0 0)) (h' := [some ⟨26, [(eI .u32 t_Version), (.row none 35 (t_Inputs.map E_api_Input)), (.row none 2 (t_Outputs.map E_api_Output)), (eI .u32 t_Lock)]⟩]) (sv (d_box rfl rfl rfl rfl)) <| wS (v := (.row (some true) 1 [])) (sv (d_assign rfl)) <| zn <| AB.seq ?_
  replace hr := bnd hr; obtain ⟨x16, h_1, hr⟩ := hr
  refine AB.rw <| wS (v := (.ptr 0 0)) (sv (d_fa rfl (fap26_0 ..))) <| wS (v := (eI .u32 t_Version)) (sv (d_load rfl (ldP rfl (part1 ti22 rfl rfl)))) <| wC (v := (.sl 1 0 x16.length 1 false)) (h' := [some ⟨26, [(eI .u32 t_Version), (.row none 35 (t_Inputs.map E_api_Input)), (.row none 2 (t_Outputs.map E_api_Output)), (eI .u32 t_Lock)]⟩, some ⟨5, x16.map (eI .u8)⟩]) rfl (Vm.Fn.argsLe (zB (codec_AppendU32_ok N [] t_Version x16 h_1) []) (V.les_cons V.le_nil (V.les_cons (V.le_refl _ _) V.les_nil))) <| za rfl <| zn <| AB.seq ?_
  replace hr := bnd hr; obtain ⟨x22, h_2, hr⟩ := hr
  replace hr := bnd hr; obtain ⟨x23, h_3, hr⟩ := hr
  refine AB.rw <| zm rfl <| wS (v := (.ptr 0 1)) (sv (d_fa rfl (fap26_1 ..))) <| wS (v := (.row none 35 (t_Inputs.map E_api_Input))) (sv (d_load rfl (ldP rfl (part1 ti23 rfl rfl)))) <| wS (v := (eI .i64 (t_Inputs.length : Int))) (sv (d_len rfl (lenR ti23))) <| wS (sv (d_conv rfl (conv_int _ ⟨_, ti3⟩ ti65 rfl))) ?_
  refine wC (v := (.sl 2 0 x22.length 1 false)) (h' := [some ⟨26, [(eI .u32 t_Version), (.row none 35 (t_Inputs.map E_api_Input)), (.row none 2 (t_Outputs.map E_api_Output)), (eI .u32 t_Lock)]⟩, some ⟨5, x16.map (eI .u8)⟩, some ⟨5, x22.map (eI .u8)⟩]) rfl (Vm.Fn.argsLe (zB (codec_AppendSize_ok N [] (IntKind.u64.wrap (t_Inputs.length : Int)) x22 h_2) []) (V.les_cons V.le_nil (V.les_cons (V.le_refl _ _) V.les_nil))) ?_
  refine wS (v := (.sl 3 0 x23.length 1 false)) (h' := [some ⟨26, [(eI .u32 t_Version), (.row none 35 (t_Inputs.map E_api_Input)), (.row none 2 (t_Outputs.map E_api_Output)), (eI .u32 t_Lock)]⟩, none, some ⟨5, x22.map (eI .u8)⟩, some ⟨5, x23.map (eI .u8)⟩]) (sv (d_append rfl rfl (appS (E := (eI .u8)) rfl ti27 ti5 ⟨rfl, rfl, zl⟩ rfl (srcS rfl rfl) h_3 rfl rfl))) <| za rfl <| zn ?_
  refine AB.seq_g fun K1 hK1 hG1 => ?_
  have J1 : ∀ (l1 : List Int), tx_encode_J1 N t_Version t_Inputs t_Outputs t_Lock witness l1 = some r → K1 (mkF 104 [(1, (eB witness)), (2, (.ptr 0 0)), (5, (.sl 1 0 l1.length 1 false))]) [some ⟨26, [(eI .u32 t_Version), (.row none 35 (t_Inputs.map E_api_Input)), (.row none 2 (t_Outputs.map E_api_Output)), (eI .u32 t_Lock)]⟩, some ⟨5, l1.map (eI .u8)⟩] := by
    intro l1 hr
    unfold tx_encode_J1 at hr
    refine hK1 _ _ <| AB.seq ?_
    replace hr := bnd hr; obtain ⟨x47, h_4, hr⟩ := hr
    replace hr := bnd hr; obtain ⟨x48, h_5, hr⟩ := hr
    refine AB.rw <| zm rfl <| wS (v := (.ptr 0 2)) (sv (d_fa rfl (fap26_2 ..))) <| wS (v := (.row none 2 (t_Outputs.map E_api_Output))) (sv (d_load rfl (ldP rfl (part1 ti24 rfl rfl)))) <| wS (v := (eI .i64 (t_Outputs.length : Int))) (sv (d_len rfl (lenR ti24))) <| wS (sv (d_conv rfl (conv_int _ ⟨_, ti3⟩ ti65 rfl))) ?_
    refine wC (v := (.sl 2 0 x47.length 1 false)) (h' := [some ⟨26, [(eI .u32 t_Version), (.row none 35 (t_Inputs.map E_api_Input)), (.row none 2 (t_Outputs.map E_api_Output)), (eI .u32 t_Lock)]⟩, some ⟨5, l1.map (eI .u8)⟩, some ⟨5, x47.map (eI .u8)⟩]) rfl (Vm.Fn.argsLe (zB (codec_AppendSize_ok N [] (IntKind.u64.wrap (t_Outputs.length : Int)) x47 h_4) []) (V.les_cons V.le_nil (V.les_cons (V.le_refl _ _) V.les_nil))) ?_
    refine wS (v := (.sl 3 0 x48.length 1 false)) (h' := [some ⟨26, [(eI .u32 t_Version), (.row none 35 (t_Inputs.map E_api_Input)), (.row none 2 (t_Outputs.map E_api_Output)), (eI .u32 t_Lock)]⟩, none, some ⟨5, x47.map (eI .u8)⟩, some ⟨5, x48.map (eI .u8)⟩]) (sv (d_append rfl rfl (appS (E := (eI .u8)) rfl ti27 ti5 ⟨rfl, rfl, zl⟩ rfl (srcS rfl rfl) h_5 rfl rfl))) <| za rfl <| zn ?_
    refine AB.seq_g fun K2 hK2 hG2 => ?_
    have J2 : ∀ (l1_1 : List Int), tx_encode_J2 N t_Version t_Inputs t_Outputs t_Lock witness l1_1 = some r → K2 (mkF 104 [(1, (eB witness)), (2, (.ptr 0 0)), (5, (.sl 1 0 l1_1.length 1 false))]) [some ⟨26, [(eI .u32 t_Version), (.row none 35 (t_Inputs.map E_api_Input)), (.row none 2 (t_Outputs.map E_api_Output)), (eI .u32 t_Lock)]⟩, some ⟨5, l1_1.map (eI .u8)⟩] := by
      intro l1_1 hr
      unfold tx_encode_J2 at hr
      refine hK2 _ _ <| AB.seq ?_
      replace hr := bnd hr; obtain ⟨x71, h_6, hr⟩ := hr
      replace hr := bnd hr; obtain ⟨x72, h_7, hr⟩ := hr
      refine AB.rw <| zm rfl <| wS (v := (.ptr 0 3)) (sv (d_fa rfl (fap26_3 ..))) <| wS (v := (eI .u32 t_Lock)) (sv (d_load rfl (ldP rfl (part1 ti22 rfl rfl)))) <| wC (v := (.sl 2 0 x71.length 1 false)) (h' := [some ⟨26, [(eI .u32 t_Version), (.row none 35 (t_Inputs.map E_api_Input)), (.row none 2 (t_Outputs.map E_api_Output)), (eI .u32 t_Lock)]⟩, some ⟨5, l1_1.map (eI .u8)⟩, some ⟨5, x71.map (eI .u8)⟩]) rfl (Vm.Fn.argsLe (zB (codec_AppendU32_ok N [] t_Lock x71 h_6) []) (V.les_cons V.le_nil (V.les_cons (V.le_refl _ _) V.les_nil))) ?_
      refine wS (v := (.sl 3 0 x72.length 1 false)) (h' := [some ⟨26, [(eI .u32 t_Version), (.row none 35 (t_Inputs.map E_api_Input)), (.row none 2 (t_Outputs.map E_api_Output)), (eI .u32 t_Lock)]⟩, none, some ⟨5, x71.map (eI .u8)⟩, some ⟨5, x72.map (eI .u8)⟩]) (sv (d_append rfl rfl (appS (E := (eI .u8)) rfl ti27 ti5 ⟨rfl, rfl, zl⟩ rfl (srcS rfl rfl) h_7 rfl rfl))) <| za rfl <| zn <| AB.seq <| zq <| zm rfl <| wS (sv (d_un rfl (un_not _ _))) <| zn ?_
      refine AB.cnd rfl (fun h8 => ?_) (fun h8 => ?_)
      · replace hr := iteT hr h8
        refine zq <| zm rfl <| za rfl <| zn <| AB.ret <| Ex.then_ret_mk ?_
        obtain rfl := Option.some.inj hr
        exact done_ret (r1 := (.sl 3 0 x72.length 1 false)) (res1 Tryd.results45 (rvT rfl)) (zG [3])
      · replace hr := iteF hr h8
        refine AB.skip <| Ex.then_mk ?_
        refine AB.seq_g fun K3 hK3 hG3 => ?_
        have J3 : ∀ (l0 : List Int), tx_encode_J3 N l0 = some r → K3 (mkF 104 [(5, (.sl 0 0 l0.length 1 false))]) [some ⟨5, l0.map (eI .u8)⟩] := by
          intro l0 hr
          unfold tx_encode_J3 at hr
          refine hK3 _ _ <| zq <| zm rfl <| za rfl <| zn <| AB.ret ?_
          obtain rfl := Option.some.inj hr
          exact done_ret (r1 := (.sl 0 0 l0.length 1 false)) (res1 Tryd.results45 (rvT rfl)) (zG [0])
        refine zq <| wS (v := (.ptr 0 1)) (sv (d_fa rfl (fap26_1 ..))) <| wS (v := (.row none 35 (t_Inputs.map E_api_Input))) (sv (d_load rfl (ldP rfl (part1 ti23 rfl rfl)))) <| wS (v := (eI .i64 (t_Inputs.length : Int))) (sv (d_len rfl (lenR ti23))) <| wS (v := (eI .i64 0)) (sv (d_move rfl)) <| zn ?_
        replace hr := bnd hr; obtain ⟨res4, hL4, hr⟩ := hr
        refine AB.block <| AB.loopN (fun m s h => ∃ (x79 : Int) (l0_1 : List Int), tx_encode_L4 N t_Inputs m x79 l0_1 = some res4 ∧ Ghost 0 s h (mkF 104 [(5, (.sl 0 0 l0_1.length 1 false)), (77, (.row none 35 (t_Inputs.map E_api_Input))), (78, (eI .i64 (t_Inputs.length : Int))), (79, (eI .i64 x79))]) [some ⟨5, l0_1.map (eI .u8)⟩]) (n := N) ⟨0, x72, hL4, (zG [3])⟩ (by rintro s h ⟨_, _, h0, _⟩; simp [tx_encode_L4] at h0) ?_
        rintro m4 s h ⟨x79, l0_1, hr4, hg⟩
        refine AB.ghost hg ?_
        clear hg hL4
        rw [tx_encode_L4] at hr4
        refine zq <| wS (sv (d_bin rfl rfl (bin_lss ..))) <| zn <| AB.seq ?_
        refine AB.cnd rfl (fun h9 => ?_) (fun h9 => ?_)
        · replace hr4 := iteT hr4 h9
          refine AB.skip <| Ex.then_mk ?_
          refine AB.seq_g fun K5 hK5 hG5 => ?_
          have J5 : ∀ (l0_2 : List Int), tx_encode_J5 N t_Inputs x79 (tx_encode_L4 N t_Inputs m4) l0_2 = some res4 → K5 (mkF 104 [(5, (.sl 0 0 l0_2.length 1 false)), (77, (.row none 35 (t_Inputs.map E_api_Input))), (78, (eI .i64 (t_Inputs.length : Int))), (79, (eI .i64 x79))]) [some ⟨5, l0_2.map (eI .u8)⟩] := by
            intro l0_2 hr4
            unfold tx_encode_J5 at hr4
            refine hK5 _ _ <| AB.rw <| wS (v := (eI .i64 (IntKind.i64.wrap (x79 + 1)))) (sv (d_bin rfl rfl (bin_add ..))) <| zm rfl <| zn ?_
            exact ⟨IntKind.i64.wrap (x79 + 1), l0_2, hr4, (zG [0])⟩
          refine AB.block <| AB.seq ?_
          replace hr4 := bnd hr4; obtain ⟨x81, h_10, hr4⟩ := hr4
          refine AB.rw <| wS (sv (d_ia rfl rfl (iaR ti23 ti42 h_10))) <| wS (v := (E_api_Input x81)) (sv (d_load rfl (ldR h_10 (partN (ds := (ar32 (eI .u8) x81.Prev.Tx [(eI .u32 x81.Prev.Index), (eI .u32 x81.Sequence), (.row none 1 (x81.Witness.map (eL 1 (eI .u8))))])) ti42 rfl zl rfl)))) <| wS (v := (.ptr 1 0)) (h' := [some ⟨5, l0_1.map (eI .u8)⟩, some ⟨42, (ar32 (eI .u8) (List.replicate 32 0) [(eI .u32 0), (eI .u32 0), (.row (some true) 1 [])])⟩]) (sv (d_alloc ti42 rfl rfl rfl)) <| wN (h' := [some ⟨5, l0_1.map (eI .u8)⟩, some ⟨42, C_api_Input x81⟩]) (sv (d_store rfl rfl (stP ti42 rfl rfl rfl zl rfl))) <| zn ?_
          refine AB.seq ?_
          replace hr4 := bnd hr4; obtain ⟨x88, h_11, hr4⟩ := hr4
          replace hr4 := bnd hr4; obtain ⟨x89, h_12, hr4⟩ := hr4
          refine AB.rw <| zm rfl <| wS (v := (.ptr 1 34)) (sv (d_fa rfl (fap42_2 ..))) <| wS (v := (.row none 1 (x81.Witness.map (eL 1 (eI .u8))))) (sv (d_load rfl (ldP rfl (part1 ti40 rfl rfl)))) <| wS (v := (eI .i64 (x81.Witness.length : Int))) (sv (d_len rfl (lenR ti40))) <| wS (sv (d_conv rfl (conv_int _ ⟨_, ti3⟩ ti65 rfl))) ?_
          refine wC (v := (.sl 2 0 x88.length 1 false)) (h' := [some ⟨5, l0_1.map (eI .u8)⟩, some ⟨42, C_api_Input x81⟩, some ⟨5, x88.map (eI .u8)⟩]) rfl (Vm.Fn.argsLe (zB (codec_AppendSize_ok N [] (IntKind.u64.wrap (x81.Witness.length : Int)) x88 h_11) []) (V.les_cons V.le_nil (V.les_cons (V.le_refl _ _) V.les_nil))) <| wS (v := (.sl 3 0 x89.length 1 false)) (h' := [none, some ⟨42, C_api_Input x81⟩, some ⟨5, x88.map (eI .u8)⟩, some ⟨5, x89.map (eI .u8)⟩]) (sv (d_append rfl rfl (appS (E := (eI .u8)) rfl ti27 ti5 ⟨rfl, rfl, zl⟩ rfl (srcS rfl rfl) h_12 rfl rfl))) <| za rfl <| zn <| zq ?_
          refine wS (v := (.ptr 1 34)) (sv (d_fa rfl (fap42_2 ..))) <| wS (v := (.row none 1 (x81.Witness.map (eL 1 (eI .u8))))) (sv (d_load rfl (ldP rfl (part1 ti40 rfl rfl)))) <| wS (v := (eI .i64 (x81.Witness.length : Int))) (sv (d_len rfl (lenR ti40))) <| wS (v := (eI .i64 0)) (sv (d_move rfl)) <| zn ?_
          replace hr4 := bnd hr4; obtain ⟨res6, hL6, hr4⟩ := hr4
          refine AB.block <| AB.loopN (fun m s h => ∃ (x93 : Int) (l0_3 : List Int), tx_encode_L6 N t_Inputs x79 x81 m x93 l0_3 = some res6 ∧ Ghost 0 s h (mkF 104 [(5, (.sl 0 0 l0_3.length 1 false)), (77, (.row none 35 (t_Inputs.map E_api_Input))), (78, (eI .i64 (t_Inputs.length : Int))), (79, (eI .i64 x79)), (91, (.row none 1 (x81.Witness.map (eL 1 (eI .u8))))), (92, (eI .i64 (x81.Witness.length : Int))), (93, (eI .i64 x93))]) [some ⟨5, l0_3.map (eI .u8)⟩]) (n := N) ⟨0, x89, hL6, (zG [3])⟩ (by rintro s h ⟨_, _, h0, _⟩; simp [tx_encode_L6] at h0) ?_
          rintro m6 s h ⟨x93, l0_3, hr6, hg⟩
          refine AB.ghost hg ?_
          clear hg hL6
          rw [tx_encode_L6] at hr6
          refine zq <| wS (sv (d_bin rfl rfl (bin_lss ..))) <| zn <| AB.seq ?_
          refine AB.cnd rfl (fun h13 => ?_) (fun h13 => ?_)
          · replace hr6 := iteT hr6 h13
            refine AB.skip <| Ex.then_mk <| AB.seq <| AB.block <| AB.seq ?_
            replace hr6 := bnd hr6; obtain ⟨x95, h_14, hr6⟩ := hr6
            refine AB.rw <| wS (sv (d_ia rfl rfl (iaR ti40 ti27 h_14))) <| wS (v := (.row none 1 (x95.map (eI .u8)))) (sv (d_load rfl (ldR h_14 (part1 ti27 rfl rfl)))) <| za rfl <| zn ?_
            replace hr6 := bnd hr6; obtain ⟨x99, h_15, hr6⟩ := hr6
            replace hr6 := bnd hr6; obtain ⟨x100, h_16, hr6⟩ := hr6
            refine AB.rw <| zm rfl <| zm rfl <| wC (v := (.sl 1 0 x99.length 1 false)) (h' := [some ⟨5, l0_3.map (eI .u8)⟩, some ⟨5, x99.map (eI .u8)⟩]) rfl (Vm.Fn.argsLe (zB (codec_AppendBytes_ok N [] x95 x99 h_15) []) (V.les_cons V.le_nil (V.les_cons (V.le_refl _ _) V.les_nil))) <| wS (v := (.sl 2 0 x100.length 1 false)) (h' := [none, some ⟨5, x99.map (eI .u8)⟩, some ⟨5, x100.map (eI .u8)⟩]) (sv (d_append rfl rfl (appS (E := (eI .u8)) rfl ti27 ti5 ⟨rfl, rfl, zl⟩ rfl (srcS rfl rfl) h_16 rfl rfl))) <| za rfl <| OpsW.nil <| Ex.inBlock_mk <| Ex.then_mk <| AB.rw ?_
            refine wS (v := (eI .i64 (IntKind.i64.wrap (x93 + 1)))) (sv (d_bin rfl rfl (bin_add ..))) <| zm rfl <| zn ?_
            exact ⟨IntKind.i64.wrap (x93 + 1), x100, hr6, (zG [2])⟩
          · replace hr6 := iteF hr6 h13
            refine AB.exit <| Ex.then_exit_mk <| Ex.then_exit_mk <| Ex.inBlock_same_mk ?_
            obtain rfl := Option.some.inj hr6
            refine Ex.inBlock_mk <| Ex.then_mk ?_
            exact hG5 _ _ _ _ (zG [0]) (J5 l0_3 hr4)
        · replace hr4 := iteF hr4 h9
          refine AB.exit <| Ex.then_exit_mk <| Ex.then_exit_mk <| Ex.inBlock_same_mk ?_
          obtain rfl := Option.some.inj hr4
          refine Ex.then_mk ?_
          exact hG3 _ _ _ _ (zG [0]) (J3 l0_1 hr)
    refine zq <| wS (v := (.ptr 0 2)) (sv (d_fa rfl (fap26_2 ..))) <| wS (v := (.row none 2 (t_Outputs.map E_api_Output))) (sv (d_load rfl (ldP rfl (part1 ti24 rfl rfl)))) <| wS (v := (eI .i64 (t_Outputs.length : Int))) (sv (d_len rfl (lenR ti24))) <| wS (v := (eI .i64 0)) (sv (d_move rfl)) <| zn ?_
    replace hr := bnd hr; obtain ⟨res7, hL7, hr⟩ := hr
    refine AB.block ?_
    refine AB.loopN (fun m s h => ∃ (x52 : Int) (l1_2 : List Int), tx_encode_L7 N t_Version t_Inputs t_Outputs t_Lock witness m x52 l1_2 = some res7 ∧ Ghost 0 s h (mkF 104 [(1, (eB witness)), (2, (.ptr 0 0)), (5, (.sl 1 0 l1_2.length 1 false)), (50, (.row none 2 (t_Outputs.map E_api_Output))), (51, (eI .i64 (t_Outputs.length : Int))), (52, (eI .i64 x52))]) [some ⟨26, [(eI .u32 t_Version), (.row none 35 (t_Inputs.map E_api_Input)), (.row none 2 (t_Outputs.map E_api_Output)), (eI .u32 t_Lock)]⟩, some ⟨5, l1_2.map (eI .u8)⟩]) (n := N) ⟨0, x48, hL7, (zG [0, 3])⟩ (by rintro s h ⟨_, _, h0, _⟩; simp [tx_encode_L7] at h0) ?_
    rintro m7 s h ⟨x52, l1_2, hr7, hg⟩
    refine AB.ghost hg ?_
    clear hg hL7
    rw [tx_encode_L7] at hr7
    refine zq <| wS (sv (d_bin rfl rfl (bin_lss ..))) <| zn <| AB.seq ?_
    refine AB.cnd rfl (fun h17 => ?_) (fun h17 => ?_)
    · replace hr7 := iteT hr7 h17
      refine AB.skip <| Ex.then_mk <| AB.seq <| AB.block <| AB.seq ?_
      replace hr7 := bnd hr7; obtain ⟨x54, h_18, hr7⟩ := hr7
      refine AB.rw <| wS (sv (d_ia rfl rfl (iaR ti24 ti29 h_18))) <| wS (v := (.agg [(eI .i64 x54.Value), (.row none 1 (x54.Script.map (eI .u8)))])) (sv (d_load rfl (ldR h_18 (partN (ds := [(eI .i64 x54.Value), (.row none 1 (x54.Script.map (eI .u8)))]) ti29 rfl zl rfl)))) <| wS (v := (.ptr 2 0)) (h' := [some ⟨26, [(eI .u32 t_Version), (.row none 35 (t_Inputs.map E_api_Input)), (.row none 2 (t_Outputs.map E_api_Output)), (eI .u32 t_Lock)]⟩, some ⟨5, l1_2.map (eI .u8)⟩, some ⟨29, [(eI .i64 0), (.row (some true) 1 [])]⟩]) (sv (d_alloc ti29 rfl rfl rfl)) ?_
      refine wN (h' := [some ⟨26, [(eI .u32 t_Version), (.row none 35 (t_Inputs.map E_api_Input)), (.row none 2 (t_Outputs.map E_api_Output)), (eI .u32 t_Lock)]⟩, some ⟨5, l1_2.map (eI .u8)⟩, some ⟨29, [(eI .i64 x54.Value), (.row none 1 (x54.Script.map (eI .u8)))]⟩]) (sv (d_store rfl rfl (stP ti29 rfl rfl rfl zl rfl))) <| zn <| AB.seq ?_
      replace hr7 := bnd hr7; obtain ⟨x60, h_19, hr7⟩ := hr7
      replace hr7 := bnd hr7; obtain ⟨x61, h_20, hr7⟩ := hr7
      refine AB.rw <| zm rfl <| wS (v := (.ptr 2 0)) (sv (d_fa rfl (fap29_0 ..))) <| wS (v := (eI .i64 x54.Value)) (sv (d_load rfl (ldP rfl (part1 ti2 rfl rfl)))) <| wS (sv (d_conv rfl (conv_int _ ⟨_, ti2⟩ ti65 rfl))) ?_
      refine wC (v := (.sl 3 0 x60.length 1 false)) (h' := [some ⟨26, [(eI .u32 t_Version), (.row none 35 (t_Inputs.map E_api_Input)), (.row none 2 (t_Outputs.map E_api_Output)), (eI .u32 t_Lock)]⟩, some ⟨5, l1_2.map (eI .u8)⟩, some ⟨29, [(eI .i64 x54.Value), (.row none 1 (x54.Script.map (eI .u8)))]⟩, some ⟨5, x60.map (eI .u8)⟩]) rfl (Vm.Fn.argsLe (zB (codec_AppendU64_ok N [] (IntKind.u64.wrap x54.Value) x60 h_19) []) (V.les_cons V.le_nil (V.les_cons (V.le_refl _ _) V.les_nil))) ?_
      refine wS (v := (.sl 4 0 x61.length 1 false)) (h' := [some ⟨26, [(eI .u32 t_Version), (.row none 35 (t_Inputs.map E_api_Input)), (.row none 2 (t_Outputs.map E_api_Output)), (eI .u32 t_Lock)]⟩, none, some ⟨29, [(eI .i64 x54.Value), (.row none 1 (x54.Script.map (eI .u8)))]⟩, some ⟨5, x60.map (eI .u8)⟩, some ⟨5, x61.map (eI .u8)⟩]) (sv (d_append rfl rfl (appS (E := (eI .u8)) rfl ti27 ti5 ⟨rfl, rfl, zl⟩ rfl (srcS rfl rfl) h_20 rfl rfl))) <| za rfl <| zn ?_
      replace hr7 := bnd hr7; obtain ⟨x65, h_21, hr7⟩ := hr7
      replace hr7 := bnd hr7; obtain ⟨x66, h_22, hr7⟩ := hr7
      refine AB.rw <| zm rfl <| wS (v := (.ptr 2 1)) (sv (d_fa rfl (fap29_1 ..))) <| wS (v := (.row none 1 (x54.Script.map (eI .u8)))) (sv (d_load rfl (ldP rfl (part1 ti27 rfl rfl)))) ?_
      refine wC (v := (.sl 5 0 x65.length 1 false)) (h' := [some ⟨26, [(eI .u32 t_Version), (.row none 35 (t_Inputs.map E_api_Input)), (.row none 2 (t_Outputs.map E_api_Output)), (eI .u32 t_Lock)]⟩, none, some ⟨29, [(eI .i64 x54.Value), (.row none 1 (x54.Script.map (eI .u8)))]⟩, some ⟨5, x60.map (eI .u8)⟩, some ⟨5, x61.map (eI .u8)⟩, some ⟨5, x65.map (eI .u8)⟩]) rfl (Vm.Fn.argsLe (zB (codec_AppendBytes_ok N [] x54.Script x65 h_21) []) (V.les_cons V.le_nil (V.les_cons (V.le_refl _ _) V.les_nil))) ?_
      refine wS (v := (.sl 6 0 x66.length 1 false)) (h' := [some ⟨26, [(eI .u32 t_Version), (.row none 35 (t_Inputs.map E_api_Input)), (.row none 2 (t_Outputs.map E_api_Output)), (eI .u32 t_Lock)]⟩, none, some ⟨29, [(eI .i64 x54.Value), (.row none 1 (x54.Script.map (eI .u8)))]⟩, some ⟨5, x60.map (eI .u8)⟩, none, some ⟨5, x65.map (eI .u8)⟩, some ⟨5, x66.map (eI .u8)⟩]) (sv (d_append rfl rfl (appS (E := (eI .u8)) rfl ti27 ti5 ⟨rfl, rfl, zl⟩ rfl (srcS rfl rfl) h_22 rfl rfl))) <| za rfl <| OpsW.nil <| Ex.inBlock_mk <| Ex.then_mk <| AB.rw ?_
      refine wS (v := (eI .i64 (IntKind.i64.wrap (x52 + 1)))) (sv (d_bin rfl rfl (bin_add ..))) <| zm rfl <| zn ?_
      exact ⟨IntKind.i64.wrap (x52 + 1), x66, hr7, (zG [0, 6])⟩
    · replace hr7 := iteF hr7 h17
      refine AB.exit <| Ex.then_exit_mk <| Ex.then_exit_mk <| Ex.inBlock_same_mk ?_
      obtain rfl := Option.some.inj hr7
      refine Ex.then_mk ?_
      exact hG2 _ _ _ _ (zG [0, 1]) (J2 l1_2 hr)
  refine zq <| wS (v := (.ptr 0 1)) (sv (d_fa rfl (fap26_1 ..))) <| wS (v := (.row none 35 (t_Inputs.map E_api_Input))) (sv (d_load rfl (ldP rfl (part1 ti23 rfl rfl)))) <| wS (v := (eI .i64 (t_Inputs.length : Int))) (sv (d_len rfl (lenR ti23))) <| wS (v := (eI .i64 0)) (sv (d_move rfl)) <| zn ?_
  replace hr := bnd hr; obtain ⟨res8, hL8, hr⟩ := hr
  refine AB.block ?_
  refine AB.loopN (fun m s h => ∃ (x27 : Int) (l1_3 : List Int), tx_encode_L8 N t_Version t_Inputs t_Outputs t_Lock witness m x27 l1_3 = some res8 ∧ Ghost 0 s h (mkF 104 [(1, (eB witness)), (2, (.ptr 0 0)), (5, (.sl 1 0 l1_3.length 1 false)), (25, (.row none 35 (t_Inputs.map E_api_Input))), (26, (eI .i64 (t_Inputs.length : Int))), (27, (eI .i64 x27))]) [some ⟨26, [(eI .u32 t_Version), (.row none 35 (t_Inputs.map E_api_Input)), (.row none 2 (t_Outputs.map E_api_Output)), (eI .u32 t_Lock)]⟩, some ⟨5, l1_3.map (eI .u8)⟩]) (n := N) ⟨0, x23, hL8, (zG [0, 3])⟩ (by rintro s h ⟨_, _, h0, _⟩; simp [tx_encode_L8] at h0) ?_
  rintro m8 s h ⟨x27, l1_3, hr8, hg⟩
  refine AB.ghost hg ?_
  clear hg hL8
  rw [tx_encode_L8] at hr8
  refine zq <| wS (sv (d_bin rfl rfl (bin_lss ..))) <| zn <| AB.seq ?_
  refine AB.cnd rfl (fun h23 => ?_) (fun h23 => ?_)
  · replace hr8 := iteT hr8 h23
    refine AB.skip <| Ex.then_mk <| AB.seq <| AB.block <| AB.seq ?_
    replace hr8 := bnd hr8; obtain ⟨x29, h_24, hr8⟩ := hr8
    refine AB.rw <| wS (sv (d_ia rfl rfl (iaR ti23 ti42 h_24))) <| wS (v := (E_api_Input x29)) (sv (d_load rfl (ldR h_24 (partN (ds := (ar32 (eI .u8) x29.Prev.Tx [(eI .u32 x29.Prev.Index), (eI .u32 x29.Sequence), (.row none 1 (x29.Witness.map (eL 1 (eI .u8))))])) ti42 rfl zl rfl)))) ?_
    refine wS (v := (.ptr 2 0)) (h' := [some ⟨26, [(eI .u32 t_Version), (.row none 35 (t_Inputs.map E_api_Input)), (.row none 2 (t_Outputs.map E_api_Output)), (eI .u32 t_Lock)]⟩, some ⟨5, l1_3.map (eI .u8)⟩, some ⟨42, (ar32 (eI .u8) (List.replicate 32 0) [(eI .u32 0), (eI .u32 0), (.row (some true) 1 [])])⟩]) (sv (d_alloc ti42 rfl rfl rfl)) <| wN (h' := [some ⟨26, [(eI .u32 t_Version), (.row none 35 (t_Inputs.map E_api_Input)), (.row none 2 (t_Outputs.map E_api_Output)), (eI .u32 t_Lock)]⟩, some ⟨5, l1_3.map (eI .u8)⟩, some ⟨42, C_api_Input x29⟩]) (sv (d_store rfl rfl (stP ti42 rfl rfl rfl zl rfl))) ?_
    refine zn <| AB.seq ?_
    replace hr8 := bnd hr8; obtain ⟨x34, h_25, hr8⟩ := hr8
    replace hr8 := bnd hr8; obtain ⟨x35, h_26, hr8⟩ := hr8
    refine AB.rw <| zm rfl <| wS (v := (.ptr 2 0)) (sv (d_fa rfl (fap42_0 ..))) <| wS (v := (E_api_OutPoint x29.Prev)) (sv (d_load rfl (ldP rfl (partN (ds := (ar32 (eI .u8) x29.Prev.Tx [(eI .u32 x29.Prev.Index)])) ti39 rfl zl rfl)))) <| wC (v := (.sl 3 0 x34.length 1 false)) (h' := [some ⟨26, [(eI .u32 t_Version), (.row none 35 (t_Inputs.map E_api_Input)), (.row none 2 (t_Outputs.map E_api_Output)), (eI .u32 t_Lock)]⟩, some ⟨5, l1_3.map (eI .u8)⟩, some ⟨42, C_api_Input x29⟩, some ⟨5, x34.map (eI .u8)⟩]) rfl (zB (tx_Point_ok N x29.Prev.Tx x29.Prev.Index x34 h_25) []) ?_
    refine wS (v := (.sl 4 0 x35.length 1 false)) (h' := [some ⟨26, [(eI .u32 t_Version), (.row none 35 (t_Inputs.map E_api_Input)), (.row none 2 (t_Outputs.map E_api_Output)), (eI .u32 t_Lock)]⟩, none, some ⟨42, C_api_Input x29⟩, some ⟨5, x34.map (eI .u8)⟩, some ⟨5, x35.map (eI .u8)⟩]) (sv (d_append rfl rfl (appS (E := (eI .u8)) rfl ti27 ti5 ⟨rfl, rfl, zl⟩ rfl (srcS rfl rfl) h_26 rfl rfl))) <| za rfl <| zn ?_
    replace hr8 := bnd hr8; obtain ⟨x39, h_27, hr8⟩ := hr8
    replace hr8 := bnd hr8; obtain ⟨x40, h_28, hr8⟩ := hr8
    refine AB.rw <| zm rfl <| wS (v := (.ptr 2 33)) (sv (d_fa rfl (fap42_1 ..))) <| wS (v := (eI .u32 x29.Sequence)) (sv (d_load rfl (ldP rfl (part1 ti22 rfl rfl)))) <| wC (v := (.sl 5 0 x39.length 1 false)) (h' := [some ⟨26, [(eI .u32 t_Version), (.row none 35 (t_Inputs.map E_api_Input)), (.row none 2 (t_Outputs.map E_api_Output)), (eI .u32 t_Lock)]⟩, none, some ⟨42, C_api_Input x29⟩, some ⟨5, x34.map (eI .u8)⟩, some ⟨5, x35.map (eI .u8)⟩, some ⟨5, x39.map (eI .u8)⟩]) rfl (Vm.Fn.argsLe (zB (codec_AppendU32_ok N [] x29.Sequence x39 h_27) []) (V.les_cons V.le_nil (V.les_cons (V.le_refl _ _) V.les_nil))) ?_
    refine wS (v := (.sl 6 0 x40.length 1 false)) (h' := [some ⟨26, [(eI .u32 t_Version), (.row none 35 (t_Inputs.map E_api_Input)), (.row none 2 (t_Outputs.map E_api_Output)), (eI .u32 t_Lock)]⟩, none, some ⟨42, C_api_Input x29⟩, some ⟨5, x34.map (eI .u8)⟩, none, some ⟨5, x39.map (eI .u8)⟩, some ⟨5, x40.map (eI .u8)⟩]) (sv (d_append rfl rfl (appS (E := (eI .u8)) rfl ti27 ti5 ⟨rfl, rfl, zl⟩ rfl (srcS rfl rfl) h_28 rfl rfl))) <| za rfl <| OpsW.nil <| Ex.inBlock_mk <| Ex.then_mk <| AB.rw <| wS (v := (eI .i64 (IntKind.i64.wrap (x27 + 1)))) (sv (d_bin rfl rfl (bin_add ..))) <| zm rfl <| zn ?_
    exact ⟨IntKind.i64.wrap (x27 + 1), x40, hr8, (zG [0, 6])⟩
  · replace hr8 := iteF hr8 h23
    refine AB.exit <| Ex.then_exit_mk <| Ex.then_exit_mk <| Ex.inBlock_same_mk ?_
    obtain rfl := Option.some.inj hr8
    refine Ex.then_mk ?_
    exact hG1 _ _ _ _ (zG [0, 1]) (J1 l1_3 hr)
set_option maxRecDepth 20000 in
set_option maxHeartbeats 1000000 in
theorem tx_fits_ok (N : Nat) (t_Version : Int) (t_Inputs : List S_api_Input) (t_Outputs : List S_api_Output) (t_Lock : Int) (r : Bool) (hr : tx_fits N t_Version t_Inputs t_Outputs t_Lock = some r) :
    Vm.Fn Tryd.prog 42 [] [(.agg [(eI .u32 t_Version), (.row none 35 (t_Inputs.map E_api_Input)), (.row none 2 (t_Outputs.map E_api_Output)), (eI .u32 t_Lock)])] (eB r) [] := by
  refine fn_ab Tryd.func42 rfl (by kernel_rfl) Tryd.ntmps42 zl rfl (fr := [(0, (.agg [(eI .u32 t_Version), (.row none 35 (t_Inputs.map E_api_Input)), (.row none 2 (t_Outputs.map E_api_Output)), (eI .u32 t_Lock)]))]) rfl ?_
  unfold tx_fits at hr
  refine zq <| wS (v := (.ptr 0 0)) (h' := [some ⟨26, [(eI .u32 t_Version), (.row none 35 (t_Inputs.map E_api_Input)), (.row none 2 (t_Outputs.map E_api_Output)), (eI .u32 t_Lock)]⟩]) (sv (d_box rfl rfl rfl rfl)) <| wS (v := (eB false)) (sv (d_assign rfl)) <| zn <| AB.seq ?_
  refine AB.seq_g fun K1 hK1 hG1 => ?_
  have J1 : ∀ (x18 : Bool), tx_fits_J1 N t_Version t_Inputs t_Outputs t_Lock x18 = some r → K1 (mkF 63 [(1, (.ptr 0 0)), (18, (eB x18))]) [some ⟨26, [(eI .u32 t_Version), (.row none 35 (t_Inputs.map E_api_Input)), (.row none 2 (t_Outputs.map E_api_Output)), (eI .u32 t_Lock)]⟩] := by
    intro x18 hr
    unfold tx_fits_J1 at hr
    refine hK1 _ _ ?_
    refine AB.cnd rfl (fun h1 => ?_) (fun h1 => ?_)
    · replace hr := iteT hr h1
      refine zq <| wS (v := (eB false)) (sv (d_assign rfl)) <| zn <| AB.ret <| Ex.then_ret_mk ?_
      obtain rfl := Option.some.inj hr
      exact done_ret (r1 := (eB false)) (res1 Tryd.results42 (rvT rfl)) (zG [])
    · replace hr := iteF hr h1
      refine AB.skip <| Ex.then_mk ?_
      refine AB.seq_g fun K2 hK2 hG2 => ?_
      have J2 : tx_fits_J2 N t_Version t_Inputs t_Outputs t_Lock = some r → K2 (mkF 63 [(1, (.ptr 0 0))]) [some ⟨26, [(eI .u32 t_Version), (.row none 35 (t_Inputs.map E_api_Input)), (.row none 2 (t_Outputs.map E_api_Output)), (eI .u32 t_Lock)]⟩] := by
        intro hr
        unfold tx_fits_J2 at hr
        refine hK2 _ _ ?_
        refine AB.seq_g fun K3 hK3 hG3 => ?_
        have J3 : tx_fits_J3 N t_Version t_Inputs t_Outputs t_Lock = some r → K3 (mkF 63 [(1, (.ptr 0 0))]) [some ⟨26, [(eI .u32 t_Version), (.row none 35 (t_Inputs.map E_api_Input)), (.row none 2 (t_Outputs.map E_api_Output)), (eI .u32 t_Lock)]⟩] := by
          intro hr
          unfold tx_fits_J3 at hr
          refine hK3 _ _ <| AB.seq ?_
          replace hr := bnd hr; obtain ⟨x60, h_2, hr⟩ := hr
          refine AB.rw <| wS (v := (.agg [(eI .u32 t_Version), (.row none 35 (t_Inputs.map E_api_Input)), (.row none 2 (t_Outputs.map E_api_Output)), (eI .u32 t_Lock)])) (sv (d_load rfl (ldP rfl (partN (ds := [(eI .u32 t_Version), (.row none 35 (t_Inputs.map E_api_Input)), (.row none 2 (t_Outputs.map E_api_Output)), (eI .u32 t_Lock)]) ti26 rfl zl rfl)))) ?_
          refine wC (v := (.sl 1 0 x60.length 1 false)) (h' := [some ⟨26, [(eI .u32 t_Version), (.row none 35 (t_Inputs.map E_api_Input)), (.row none 2 (t_Outputs.map E_api_Output)), (eI .u32 t_Lock)]⟩, some ⟨5, x60.map (eI .u8)⟩]) rfl (zB (tx_encode_ok N t_Version t_Inputs t_Outputs t_Lock true x60 h_2) []) <| wS (v := (eI .i64 (x60.length : Int))) (sv (d_len rfl (lenS ti27))) <| wS (v := (eB (decide ((x60.length : Int) ≤ 20000)))) (sv (d_bin rfl rfl (bin_leq ..))) <| za rfl <| zn <| AB.ret ?_
          obtain rfl := Option.some.inj hr
          exact done_ret (r1 := (eB (decide ((x60.length : Int) ≤ 20000)))) (res1 Tryd.results42 (rvT rfl)) (zG [])
        refine zq <| wS (v := (.ptr 0 1)) (sv (d_fa rfl (fap26_1 ..))) <| wS (v := (.row none 35 (t_Inputs.map E_api_Input))) (sv (d_load rfl (ldP rfl (part1 ti23 rfl rfl)))) <| wS (v := (eI .i64 (t_Inputs.length : Int))) (sv (d_len rfl (lenR ti23))) <| wS (v := (eI .i64 0)) (sv (d_move rfl)) <| zn ?_
        replace hr := bnd hr; obtain ⟨res4, hL4, hr⟩ := hr
        refine AB.block <| AB.loopN (fun m s h => ∃ (x39 : Int), tx_fits_L4 N t_Version t_Inputs t_Outputs t_Lock m x39 = some res4 ∧ Ghost 0 s h (mkF 63 [(1, (.ptr 0 0)), (37, (.row none 35 (t_Inputs.map E_api_Input))), (38, (eI .i64 (t_Inputs.length : Int))), (39, (eI .i64 x39))]) [some ⟨26, [(eI .u32 t_Version), (.row none 35 (t_Inputs.map E_api_Input)), (.row none 2 (t_Outputs.map E_api_Output)), (eI .u32 t_Lock)]⟩]) (n := N) ⟨0, hL4, (zG [0])⟩ (by rintro s h ⟨_, h0, _⟩; simp [tx_fits_L4] at h0) ?_
        rintro m4 s h ⟨x39, hr4, hg⟩
        refine AB.ghost hg ?_
        clear hg hL4
        rw [tx_fits_L4] at hr4
        refine zq <| wS (sv (d_bin rfl rfl (bin_lss ..))) <| zn <| AB.seq ?_
        refine AB.cnd rfl (fun h3 => ?_) (fun h3 => ?_)
        · replace hr4 := iteT hr4 h3
          refine AB.skip <| Ex.then_mk ?_
          refine AB.seq_g fun K5 hK5 hG5 => ?_
          have J5 : tx_fits_J5 N t_Version t_Inputs t_Outputs t_Lock x39 (tx_fits_L4 N t_Version t_Inputs t_Outputs t_Lock m4) = some res4 → K5 (mkF 63 [(1, (.ptr 0 0)), (37, (.row none 35 (t_Inputs.map E_api_Input))), (38, (eI .i64 (t_Inputs.length : Int))), (39, (eI .i64 x39))]) [some ⟨26, [(eI .u32 t_Version), (.row none 35 (t_Inputs.map E_api_Input)), (.row none 2 (t_Outputs.map E_api_Output)), (eI .u32 t_Lock)]⟩] := by
            intro hr4
            unfold tx_fits_J5 at hr4
            refine hK5 _ _ <| AB.rw <| wS (v := (eI .i64 (IntKind.i64.wrap (x39 + 1)))) (sv (d_bin rfl rfl (bin_add ..))) <| zm rfl <| zn ?_
            exact ⟨IntKind.i64.wrap (x39 + 1), hr4, (zG [0])⟩
          refine AB.block <| AB.seq ?_
          replace hr4 := bnd hr4; obtain ⟨x41, h_4, hr4⟩ := hr4
          refine AB.rw <| wS (sv (d_ia rfl rfl (iaR ti23 ti42 h_4))) <| wS (v := (E_api_Input x41)) (sv (d_load rfl (ldR h_4 (partN (ds := (ar32 (eI .u8) x41.Prev.Tx [(eI .u32 x41.Prev.Index), (eI .u32 x41.Sequence), (.row none 1 (x41.Witness.map (eL 1 (eI .u8))))])) ti42 rfl zl rfl)))) <| wS (v := (.ptr 1 0)) (h' := [some ⟨26, [(eI .u32 t_Version), (.row none 35 (t_Inputs.map E_api_Input)), (.row none 2 (t_Outputs.map E_api_Output)), (eI .u32 t_Lock)]⟩, some ⟨42, (ar32 (eI .u8) (List.replicate 32 0) [(eI .u32 0), (eI .u32 0), (.row (some true) 1 [])])⟩]) (sv (d_alloc ti42 rfl rfl rfl)) ?_
          refine wN (h' := [some ⟨26, [(eI .u32 t_Version), (.row none 35 (t_Inputs.map E_api_Input)), (.row none 2 (t_Outputs.map E_api_Output)), (eI .u32 t_Lock)]⟩, some ⟨42, C_api_Input x41⟩]) (sv (d_store rfl rfl (stP ti42 rfl rfl rfl zl rfl))) <| zn <| AB.seq <| zq <| wS (v := (.ptr 1 34)) (sv (d_fa rfl (fap42_2 ..))) <| wS (v := (.row none 1 (x41.Witness.map (eL 1 (eI .u8))))) (sv (d_load rfl (ldP rfl (part1 ti40 rfl rfl)))) <| wS (v := (eI .i64 (x41.Witness.length : Int))) (sv (d_len rfl (lenR ti40))) <| wS (v := (eB (decide (32 < (x41.Witness.length : Int))))) (sv (d_bin rfl rfl (bin_gtr ..))) <| zn ?_
          refine AB.cnd rfl (fun h5 => ?_) (fun h5 => ?_)
          · replace hr4 := iteT hr4 h5
            refine zq <| wS (v := (eB false)) (sv (d_assign rfl)) <| zn <| AB.ret <| Ex.then_ret_mk <| Ex.inBlock_ret_mk <| Ex.then_ret_mk <| Ex.then_ret_mk <| Ex.inBlock_ret_mk <| Ex.then_ret_mk ?_
            obtain rfl := Option.some.inj hr4
            obtain rfl := Option.some.inj hr
            exact done_ret (r1 := (eB false)) (res1 Tryd.results42 (rvT rfl)) (zG [])
          · replace hr4 := iteF hr4 h5
            refine AB.skip <| Ex.then_mk <| zq <| wS (v := (.ptr 1 34)) (sv (d_fa rfl (fap42_2 ..))) <| wS (v := (.row none 1 (x41.Witness.map (eL 1 (eI .u8))))) (sv (d_load rfl (ldP rfl (part1 ti40 rfl rfl)))) <| wS (v := (eI .i64 (x41.Witness.length : Int))) (sv (d_len rfl (lenR ti40))) <| wS (v := (eI .i64 0)) (sv (d_move rfl)) <| zn ?_
            replace hr4 := bnd hr4; obtain ⟨res6, hL6, hr4⟩ := hr4
            refine AB.block ?_
            refine AB.loopN (fun m s h => ∃ (x50 : Int), tx_fits_L6 N t_Version t_Inputs t_Outputs t_Lock x39 x41 m x50 = some res6 ∧ Ghost 0 s h (mkF 63 [(1, (.ptr 0 0)), (37, (.row none 35 (t_Inputs.map E_api_Input))), (38, (eI .i64 (t_Inputs.length : Int))), (39, (eI .i64 x39)), (48, (.row none 1 (x41.Witness.map (eL 1 (eI .u8))))), (49, (eI .i64 (x41.Witness.length : Int))), (50, (eI .i64 x50))]) [some ⟨26, [(eI .u32 t_Version), (.row none 35 (t_Inputs.map E_api_Input)), (.row none 2 (t_Outputs.map E_api_Output)), (eI .u32 t_Lock)]⟩]) (n := N) ⟨0, hL6, (zG [0])⟩ (by rintro s h ⟨_, h0, _⟩; simp [tx_fits_L6] at h0) ?_
            rintro m6 s h ⟨x50, hr6, hg⟩
            refine AB.ghost hg ?_
            clear hg hL6
            rw [tx_fits_L6] at hr6
            refine zq <| wS (sv (d_bin rfl rfl (bin_lss ..))) <| zn <| AB.seq ?_
            refine AB.cnd rfl (fun h6 => ?_) (fun h6 => ?_)
            · replace hr6 := iteT hr6 h6
              refine AB.skip <| Ex.then_mk <| AB.seq <| AB.block <| AB.seq ?_
              replace hr6 := bnd hr6; obtain ⟨x52, h_7, hr6⟩ := hr6
              refine AB.rw <| wS (sv (d_ia rfl rfl (iaR ti40 ti27 h_7))) <| wS (v := (.row none 1 (x52.map (eI .u8)))) (sv (d_load rfl (ldR h_7 (part1 ti27 rfl rfl)))) <| za rfl <| zn <| zq <| zm rfl <| wS (v := (eI .i64 (x52.length : Int))) (sv (d_len rfl (lenR ti27))) <| wS (v := (eB (decide (520 < (x52.length : Int))))) (sv (d_bin rfl rfl (bin_gtr ..))) <| zn ?_
              refine AB.cnd rfl (fun h8 => ?_) (fun h8 => ?_)
              · replace hr6 := iteT hr6 h8
                refine zq <| wS (v := (eB false)) (sv (d_assign rfl)) <| zn <| AB.ret <| Ex.inBlock_ret_mk <| Ex.then_ret_mk <| Ex.then_ret_mk <| Ex.inBlock_ret_mk <| Ex.inBlock_ret_mk <| Ex.then_ret_mk <| Ex.then_ret_mk <| Ex.inBlock_ret_mk <| Ex.then_ret_mk ?_
                obtain rfl := Option.some.inj hr6
                obtain rfl := Option.some.inj hr4
                obtain rfl := Option.some.inj hr
                exact done_ret (r1 := (eB false)) (res1 Tryd.results42 (rvT rfl)) (zG [])
              · replace hr6 := iteF hr6 h8
                refine AB.skip <| Ex.inBlock_mk <| Ex.then_mk <| AB.rw <| wS (v := (eI .i64 (IntKind.i64.wrap (x50 + 1)))) (sv (d_bin rfl rfl (bin_add ..))) <| zm rfl <| zn ?_
                exact ⟨IntKind.i64.wrap (x50 + 1), hr6, (zG [0])⟩
            · replace hr6 := iteF hr6 h6
              refine AB.exit <| Ex.then_exit_mk <| Ex.then_exit_mk <| Ex.inBlock_same_mk ?_
              obtain rfl := Option.some.inj hr6
              refine Ex.inBlock_mk <| Ex.then_mk ?_
              exact hG5 _ _ _ _ (zG [0]) (J5 hr4)
        · replace hr4 := iteF hr4 h3
          refine AB.exit <| Ex.then_exit_mk <| Ex.then_exit_mk <| Ex.inBlock_same_mk ?_
          obtain rfl := Option.some.inj hr4
          refine Ex.then_mk ?_
          exact hG3 _ _ _ _ (zG [0]) (J3 hr)
      refine zq <| wS (v := (.ptr 0 2)) (sv (d_fa rfl (fap26_2 ..))) <| wS (v := (.row none 2 (t_Outputs.map E_api_Output))) (sv (d_load rfl (ldP rfl (part1 ti24 rfl rfl)))) <| wS (v := (eI .i64 (t_Outputs.length : Int))) (sv (d_len rfl (lenR ti24))) <| wS (v := (eI .i64 0)) (sv (d_move rfl)) <| zn ?_
      replace hr := bnd hr; obtain ⟨res7, hL7, hr⟩ := hr
      refine AB.block <| AB.loopN (fun m s h => ∃ (x22 : Int), tx_fits_L7 N t_Version t_Inputs t_Outputs t_Lock m x22 = some res7 ∧ Ghost 0 s h (mkF 63 [(1, (.ptr 0 0)), (20, (.row none 2 (t_Outputs.map E_api_Output))), (21, (eI .i64 (t_Outputs.length : Int))), (22, (eI .i64 x22))]) [some ⟨26, [(eI .u32 t_Version), (.row none 35 (t_Inputs.map E_api_Input)), (.row none 2 (t_Outputs.map E_api_Output)), (eI .u32 t_Lock)]⟩]) (n := N) ⟨0, hL7, (zG [0])⟩ (by rintro s h ⟨_, h0, _⟩; simp [tx_fits_L7] at h0) ?_
      rintro m7 s h ⟨x22, hr7, hg⟩
      refine AB.ghost hg ?_
      clear hg hL7
      rw [tx_fits_L7] at hr7
      refine zq <| wS (sv (d_bin rfl rfl (bin_lss ..))) <| zn <| AB.seq ?_
      refine AB.cnd rfl (fun h9 => ?_) (fun h9 => ?_)
      · replace hr7 := iteT hr7 h9
        refine AB.skip <| Ex.then_mk <| AB.seq <| AB.block <| AB.seq ?_
        replace hr7 := bnd hr7; obtain ⟨x24, h_10, hr7⟩ := hr7
        refine AB.rw <| wS (sv (d_ia rfl rfl (iaR ti24 ti29 h_10))) <| wS (v := (.agg [(eI .i64 x24.Value), (.row none 1 (x24.Script.map (eI .u8)))])) (sv (d_load rfl (ldR h_10 (partN (ds := [(eI .i64 x24.Value), (.row none 1 (x24.Script.map (eI .u8)))]) ti29 rfl zl rfl)))) <| wS (v := (.ptr 1 0)) (h' := [some ⟨26, [(eI .u32 t_Version), (.row none 35 (t_Inputs.map E_api_Input)), (.row none 2 (t_Outputs.map E_api_Output)), (eI .u32 t_Lock)]⟩, some ⟨29, [(eI .i64 0), (.row (some true) 1 [])]⟩]) (sv (d_alloc ti29 rfl rfl rfl)) ?_
        refine wN (h' := [some ⟨26, [(eI .u32 t_Version), (.row none 35 (t_Inputs.map E_api_Input)), (.row none 2 (t_Outputs.map E_api_Output)), (eI .u32 t_Lock)]⟩, some ⟨29, [(eI .i64 x24.Value), (.row none 1 (x24.Script.map (eI .u8)))]⟩]) (sv (d_store rfl rfl (stP ti29 rfl rfl rfl zl rfl))) <| zn ?_
        refine AB.seq_g fun K8 hK8 hG8 => ?_
        have J8 : ∀ (x34 : Bool), tx_fits_J8 N t_Version t_Inputs t_Outputs t_Lock x22 (tx_fits_L7 N t_Version t_Inputs t_Outputs t_Lock m7) x34 = some res7 → K8 (mkF 63 [(1, (.ptr 0 0)), (20, (.row none 2 (t_Outputs.map E_api_Output))), (21, (eI .i64 (t_Outputs.length : Int))), (22, (eI .i64 x22)), (34, (eB x34))]) [some ⟨26, [(eI .u32 t_Version), (.row none 35 (t_Inputs.map E_api_Input)), (.row none 2 (t_Outputs.map E_api_Output)), (eI .u32 t_Lock)]⟩] := by
          intro x34 hr7
          unfold tx_fits_J8 at hr7
          refine hK8 _ _ ?_
          refine AB.cnd rfl (fun h11 => ?_) (fun h11 => ?_)
          · replace hr7 := iteT hr7 h11
            refine zq <| wS (v := (eB false)) (sv (d_assign rfl)) <| zn <| AB.ret <| Ex.inBlock_ret_mk <| Ex.then_ret_mk <| Ex.then_ret_mk <| Ex.inBlock_ret_mk <| Ex.then_ret_mk ?_
            obtain rfl := Option.some.inj hr7
            obtain rfl := Option.some.inj hr
            exact done_ret (r1 := (eB false)) (res1 Tryd.results42 (rvT rfl)) (zG [])
          · replace hr7 := iteF hr7 h11
            refine AB.skip <| Ex.inBlock_mk <| Ex.then_mk <| AB.rw <| wS (v := (eI .i64 (IntKind.i64.wrap (x22 + 1)))) (sv (d_bin rfl rfl (bin_add ..))) <| zm rfl <| zn ?_
            exact ⟨IntKind.i64.wrap (x22 + 1), hr7, (zG [0])⟩
        rcases Bool.eq_false_or_eq_true (decide (x24.Value < 0)) with h12 | h12
        · replace hr7 := iteT hr7 h12
          refine AB.rw <| wS (v := (.ptr 1 0)) (sv (d_fa rfl (fap29_0 ..))) <| wS (v := (eI .i64 x24.Value)) (sv (d_load rfl (ldP rfl (part1 ti2 rfl rfl)))) <| wS (v := (eB (decide (x24.Value < 0)))) (sv (d_bin rfl rfl (bin_lss ..))) <| zm rfl <| wS (svX rfl rfl h12) <| wS (svX rfl rfl h12) <| wS (svX rfl rfl h12) <| wS (svX rfl rfl h12) <| wS (v := (eB true)) (sv (d_pickT rfl h12 rfl)) <| zn ?_
          exact hG8 _ _ _ _ (zG [0]) (J8 true hr7)
        · replace hr7 := iteF hr7 h12
          refine AB.rw <| wS (v := (.ptr 1 0)) (sv (d_fa rfl (fap29_0 ..))) <| wS (v := (eI .i64 x24.Value)) (sv (d_load rfl (ldP rfl (part1 ti2 rfl rfl)))) <| wS (v := (eB (decide (x24.Value < 0)))) (sv (d_bin rfl rfl (bin_lss ..))) <| zm rfl <| wS (v := (.ptr 1 1)) (svG rfl rfl h12 (d_fa rfl (fap29_1 ..))) <| wS (v := (.row none 1 (x24.Script.map (eI .u8)))) (svG rfl rfl h12 (d_load rfl (ldP rfl (part1 ti27 rfl rfl)))) <| wS (v := (eI .i64 (x24.Script.length : Int))) (svG rfl rfl h12 (d_len rfl (lenR ti27))) ?_
          refine wS (v := (eB (decide (520 < (x24.Script.length : Int))))) (svG rfl rfl h12 (d_bin rfl rfl (bin_gtr ..))) <| wS (v := (eB (decide (520 < (x24.Script.length : Int))))) (sv (d_pickF rfl h12 rfl)) <| zn ?_
          exact hG8 _ _ _ _ (zG [0]) (J8 (decide (520 < (x24.Script.length : Int))) hr7)
      · replace hr7 := iteF hr7 h9
        refine AB.exit <| Ex.then_exit_mk <| Ex.then_exit_mk <| Ex.inBlock_same_mk ?_
        obtain rfl := Option.some.inj hr7
        refine Ex.then_mk ?_
        exact hG2 _ _ _ _ (zG [0]) (J2 hr)
  rcases Bool.eq_false_or_eq_true (decide (64 < (t_Inputs.length : Int))) with h13 | h13
  · replace hr := iteT hr h13
    refine AB.rw <| wS (v := (.ptr 0 1)) (sv (d_fa rfl (fap26_1 ..))) <| wS (v := (.row none 35 (t_Inputs.map E_api_Input))) (sv (d_load rfl (ldP rfl (part1 ti23 rfl rfl)))) <| wS (v := (eI .i64 (t_Inputs.length : Int))) (sv (d_len rfl (lenR ti23))) <| wS (v := (eB (decide (64 < (t_Inputs.length : Int))))) (sv (d_bin rfl rfl (bin_gtr ..))) <| zm rfl <| wS (svX rfl rfl h13) <| wS (svX rfl rfl h13) <| wS (svX rfl rfl h13) <| wS (svX rfl rfl h13) <| wS (v := (eB true)) (sv (d_pickT rfl h13 rfl)) <| zn ?_
    exact hG1 _ _ _ _ (zG [0]) (J1 true hr)
  · replace hr := iteF hr h13
    refine AB.rw <| wS (v := (.ptr 0 1)) (sv (d_fa rfl (fap26_1 ..))) <| wS (v := (.row none 35 (t_Inputs.map E_api_Input))) (sv (d_load rfl (ldP rfl (part1 ti23 rfl rfl)))) <| wS (v := (eI .i64 (t_Inputs.length : Int))) (sv (d_len rfl (lenR ti23))) <| wS (v := (eB (decide (64 < (t_Inputs.length : Int))))) (sv (d_bin rfl rfl (bin_gtr ..))) <| zm rfl <| wS (v := (.ptr 0 2)) (svG rfl rfl h13 (d_fa rfl (fap26_2 ..))) <| wS (v := (.row none 2 (t_Outputs.map E_api_Output))) (svG rfl rfl h13 (d_load rfl (ldP rfl (part1 ti24 rfl rfl)))) ?_
    refine wS (v := (eI .i64 (t_Outputs.length : Int))) (svG rfl rfl h13 (d_len rfl (lenR ti24))) <| wS (v := (eB (decide (64 < (t_Outputs.length : Int))))) (svG rfl rfl h13 (d_bin rfl rfl (bin_gtr ..))) <| wS (v := (eB (decide (64 < (t_Outputs.length : Int))))) (sv (d_pickF rfl h13 rfl)) <| zn ?_
    exact hG1 _ _ _ _ (zG [0]) (J1 (decide (64 < (t_Outputs.length : Int))) hr)
set_option maxRecDepth 20000 in
set_option maxHeartbeats 1000000 in
theorem tx_money_ok (N : Nat) (l : List S_api_Output) (r : Bool) (hr : tx_money N l = some r) :
    Vm.Fn Tryd.prog 43 [] [(.row none 2 (l.map E_api_Output))] (eB r) [] := by
  refine fn_ab Tryd.func43 rfl (by kernel_rfl) Tryd.ntmps43 zl rfl (fr := [(0, (.row none 2 (l.map E_api_Output)))]) rfl ?_
  unfold tx_money at hr
  refine zq <| wS (v := (eB false)) (sv (d_assign rfl)) <| zn <| zq <| wS (v := (eI .i64 0)) (sv (d_assign rfl)) <| zn ?_
  refine AB.seq_g fun K1 hK1 hG1 => ?_
  have J1 : tx_money_J1 N = some r → K1 (mkF 22 []) [] := by
    intro hr
    unfold tx_money_J1 at hr
    refine hK1 _ _ <| zq <| wS (v := (eB true)) (sv (d_assign rfl)) <| zn <| AB.ret ?_
    obtain rfl := Option.some.inj hr
    exact done_ret (r1 := (eB true)) (res1 Tryd.results43 (rvT rfl)) (zG [])
  refine zq <| zm rfl <| wS (v := (eI .i64 (l.length : Int))) (sv (d_len rfl (lenR ti24))) <| wS (v := (eI .i64 0)) (sv (d_move rfl)) <| zn ?_
  replace hr := bnd hr; obtain ⟨res2, hL2, hr⟩ := hr
  refine AB.block <| AB.loopN (fun m s h => ∃ (sum : Int) (x8 : Int), tx_money_L2 N l m sum x8 = some res2 ∧ Ghost 0 s h (mkF 22 [(3, (eI .i64 sum)), (6, (.row none 2 (l.map E_api_Output))), (7, (eI .i64 (l.length : Int))), (8, (eI .i64 x8))]) []) (n := N) ⟨0, 0, hL2, (zG [])⟩ (by rintro s h ⟨_, _, h0, _⟩; simp [tx_money_L2] at h0) ?_
  rintro m2 s h ⟨sum, x8, hr2, hg⟩
  refine AB.ghost hg ?_
  clear hg hL2
  rw [tx_money_L2] at hr2
  refine zq <| wS (sv (d_bin rfl rfl (bin_lss ..))) <| zn <| AB.seq ?_
  refine AB.cnd rfl (fun h1 => ?_) (fun h1 => ?_)
  · replace hr2 := iteT hr2 h1
    refine AB.skip <| Ex.then_mk <| AB.seq <| AB.block <| AB.seq ?_
    replace hr2 := bnd hr2; obtain ⟨x10, h_2, hr2⟩ := hr2
    refine AB.rw <| wS (sv (d_ia rfl rfl (iaR ti24 ti29 h_2))) <| wS (v := (.agg [(eI .i64 x10.Value), (.row none 1 (x10.Script.map (eI .u8)))])) (sv (d_load rfl (ldR h_2 (partN (ds := [(eI .i64 x10.Value), (.row none 1 (x10.Script.map (eI .u8)))]) ti29 rfl zl rfl)))) <| wS (v := (.ptr 0 0)) (h' := [some ⟨29, [(eI .i64 0), (.row (some true) 1 [])]⟩]) (sv (d_alloc ti29 rfl rfl rfl)) <| wN (h' := [some ⟨29, [(eI .i64 x10.Value), (.row none 1 (x10.Script.map (eI .u8)))]⟩]) (sv (d_store rfl rfl (stP ti29 rfl rfl rfl zl rfl))) <| zn <| AB.seq <| zq <| wS (v := (.ptr 0 0)) (sv (d_fa rfl (fap29_0 ..))) ?_
    refine wS (v := (eI .i64 x10.Value)) (sv (d_load rfl (ldP rfl (part1 ti2 rfl rfl)))) <| zm rfl <| wS (v := (eI .i64 (IntKind.i64.wrap (2100000000000000 - sum)))) (sv (d_bin rfl rfl (bin_sub ..))) <| wS (sv (d_bin rfl rfl (bin_gtr ..))) <| zn ?_
    refine AB.cnd rfl (fun h3 => ?_) (fun h3 => ?_)
    · replace hr2 := iteT hr2 h3
      refine zq <| wS (v := (eB false)) (sv (d_assign rfl)) <| zn <| AB.ret <| Ex.then_ret_mk <| Ex.inBlock_ret_mk <| Ex.then_ret_mk <| Ex.then_ret_mk <| Ex.inBlock_ret_mk <| Ex.then_ret_mk ?_
      obtain rfl := Option.some.inj hr2
      obtain rfl := Option.some.inj hr
      exact done_ret (r1 := (eB false)) (res1 Tryd.results43 (rvT rfl)) (zG [])
    · replace hr2 := iteF hr2 h3
      refine AB.skip <| Ex.then_mk <| AB.rw <| zm rfl <| wS (v := (.ptr 0 0)) (sv (d_fa rfl (fap29_0 ..))) <| wS (v := (eI .i64 x10.Value)) (sv (d_load rfl (ldP rfl (part1 ti2 rfl rfl)))) <| wS (sv (d_bin rfl rfl (bin_add ..))) <| za rfl <| OpsW.nil <| Ex.inBlock_mk <| Ex.then_mk <| AB.rw <| wS (v := (eI .i64 (IntKind.i64.wrap (x8 + 1)))) (sv (d_bin rfl rfl (bin_add ..))) <| zm rfl <| zn ?_
      exact ⟨IntKind.i64.wrap (sum + x10.Value), IntKind.i64.wrap (x8 + 1), hr2, (zG [])⟩
  · replace hr2 := iteF hr2 h1
    refine AB.exit <| Ex.then_exit_mk <| Ex.then_exit_mk <| Ex.inBlock_same_mk ?_
    obtain rfl := Option.some.inj hr2
    refine Ex.then_mk ?_
    exact hG1 _ _ _ _ (zG []) (J1 hr)
set_option maxRecDepth 20000 in
set_option maxHeartbeats 1000000 in
theorem tx_null_ok (N : Nat) (o_Tx : List Int) (o_Index : Int) (r : Bool) (hr : tx_null N o_Tx o_Index = some r) :
    Vm.Fn Tryd.prog 55 [] [(.agg (ar32 (eI .u8) o_Tx [(eI .u32 o_Index)]))] (eB r) [] := by
  refine fn_ab Tryd.func55 rfl (by kernel_rfl) Tryd.ntmps55 zl rfl (fr := [(0, (.agg (ar32 (eI .u8) o_Tx [(eI .u32 o_Index)])))]) rfl ?_
  unfold tx_null at hr
  refine zq <| wS (v := (.ptr 0 0)) (h' := [some ⟨39, (ar32 (eI .u8) o_Tx [(eI .u32 o_Index)])⟩]) (sv (d_box rfl rfl rfl rfl)) <| wS (v := (eB false)) (sv (d_assign rfl)) <| zn <| zq <| wS (v := (.agg (ar32 (eI .u8) o_Tx [(eI .u32 o_Index)]))) (sv (d_load rfl (ldP rfl (partN (ds := (ar32 (eI .u8) o_Tx [(eI .u32 o_Index)])) ti39 rfl zl rfl)))) <| wS (v := (.agg (ar32 (eI .u8) (List.replicate 32 0) [(eI .u32 4294967295)]))) (sv (d_build rfl (bldS ti39 pl39 rfl))) <| wS (sv (d_bin rfl rfl (bin_eqlP (d := 9) ti39 rfl ft39 zl eg39 rfl rfl rfl rfl rfl))) <| za rfl <| zn <| AB.ret ?_
  obtain rfl := Option.some.inj hr
  exact done_ret (r1 := (eB (aeq32 o_Tx (List.replicate 32 0) ((o_Index == 4294967295) && true)))) (res1 Tryd.results55 (rvT rfl)) (zG [])
set_option maxRecDepth 20000 in
set_option maxHeartbeats 1000000 in
theorem tx_Coinbase_ok (N : Nat) (t_Version : Int) (t_Inputs : List S_api_Input) (t_Outputs : List S_api_Output) (t_Lock : Int) (r : Bool) (hr : tx_Coinbase N t_Version t_Inputs t_Outputs t_Lock = some r) :
    Vm.Fn Tryd.prog 44 [] [(.agg [(eI .u32 t_Version), (.row none 35 (t_Inputs.map E_api_Input)), (.row none 2 (t_Outputs.map E_api_Output)), (eI .u32 t_Lock)])] (eB r) [] := by
  refine fn_ab Tryd.func44 rfl (by kernel_rfl) Tryd.ntmps44 zl rfl (fr := [(0, (.agg [(eI .u32 t_Version), (.row none 35 (t_Inputs.map E_api_Input)), (.row none 2 (t_Outputs.map E_api_Output)), (eI .u32 t_Lock)]))]) rfl ?_
  unfold tx_Coinbase at hr
  refine zq <| wS (v := (.ptr 0 0)) (h' := [some ⟨26, [(eI .u32 t_Version), (.row none 35 (t_Inputs.map E_api_Input)), (.row none 2 (t_Outputs.map E_api_Output)), (eI .u32 t_Lock)]⟩]) (sv (d_box rfl rfl rfl rfl)) <| wS (v := (eB false)) (sv (d_assign rfl)) <| zn ?_
  refine AB.seq_g fun K1 hK1 hG1 => ?_
  have J1 : ∀ (x2 : Bool), tx_Coinbase_J1 N x2 = some r → K1 (mkF 15 [(2, (eB x2))]) [] := by
    intro x2 hr
    unfold tx_Coinbase_J1 at hr
    refine hK1 _ _ <| AB.ret ?_
    obtain rfl := Option.some.inj hr
    exact done_ret (r1 := (eB x2)) (res1 Tryd.results44 (rvT rfl)) (zG [])
  rcases Bool.eq_false_or_eq_true ((t_Inputs.length : Int) == 1) with h1 | h1
  · replace hr := iteT hr h1
    replace hr := bnd hr; obtain ⟨x10, h_2, hr⟩ := hr
    replace hr := bnd hr; obtain ⟨x13, h_3, hr⟩ := hr
    refine AB.rw <| wS (v := (.ptr 0 1)) (sv (d_fa rfl (fap26_1 ..))) <| wS (v := (.row none 35 (t_Inputs.map E_api_Input))) (sv (d_load rfl (ldP rfl (part1 ti23 rfl rfl)))) <| wS (v := (eI .i64 (t_Inputs.length : Int))) (sv (d_len rfl (lenR ti23))) <| wS (v := (eB ((t_Inputs.length : Int) == 1))) (sv (d_bin rfl rfl (bin_eql ..))) <| zm rfl <| wS (v := (.ptr 0 1)) (svG rfl rfl h1 (d_fa rfl (fap26_1 ..))) <| wS (v := (.row none 35 (t_Inputs.map E_api_Input))) (svG rfl rfl h1 (d_load rfl (ldP rfl (part1 ti23 rfl rfl)))) <| wS (svG rfl rfl h1 (d_ia rfl rfl (iaR ti23 ti42 h_2))) ?_
    refine wS (svG rfl rfl h1 (d_fa rfl (fae42_0 ..))) <| wS (v := (E_api_OutPoint x10.Prev)) (svG rfl rfl h1 (d_load rfl (ldR h_2 (partN (ds := (ar32 (eI .u8) x10.Prev.Tx [(eI .u32 x10.Prev.Index)])) ti39 rfl zl rfl)))) <| wCG (v := (eB x13)) (h' := [some ⟨26, [(eI .u32 t_Version), (.row none 35 (t_Inputs.map E_api_Input)), (.row none 2 (t_Outputs.map E_api_Output)), (eI .u32 t_Lock)]⟩]) rfl rfl h1 rfl (Vm.Fn.pure (tx_null_ok N x10.Prev.Tx x10.Prev.Index x13 h_3) rfl rfl) <| wS (v := (eB x13)) (sv (d_pickT rfl h1 rfl)) <| za rfl <| zn ?_
    exact hG1 _ _ _ _ (zG []) (J1 x13 hr)
  · replace hr := iteF hr h1
    refine AB.rw <| wS (v := (.ptr 0 1)) (sv (d_fa rfl (fap26_1 ..))) <| wS (v := (.row none 35 (t_Inputs.map E_api_Input))) (sv (d_load rfl (ldP rfl (part1 ti23 rfl rfl)))) <| wS (v := (eI .i64 (t_Inputs.length : Int))) (sv (d_len rfl (lenR ti23))) <| wS (v := (eB ((t_Inputs.length : Int) == 1))) (sv (d_bin rfl rfl (bin_eql ..))) <| zm rfl <| wS (svX rfl rfl h1) <| wS (svX rfl rfl h1) <| wS (svX rfl rfl h1) <| wS (svX rfl rfl h1) <| wS (svX rfl rfl h1) <| wS (svX rfl rfl h1) <| wS (v := (eB false)) (sv (d_pickF rfl h1 rfl)) <| za rfl <| zn ?_
    exact hG1 _ _ _ _ (zG []) (J1 false hr)
set_option maxRecDepth 20000 in
set_option maxHeartbeats 1000000 in
theorem tx_Check_ok (N : Nat) (t_Version : Int) (t_Inputs : List S_api_Input) (t_Outputs : List S_api_Output) (t_Lock : Int) (r : Int) (hr : tx_Check N t_Version t_Inputs t_Outputs t_Lock = some r) :
    Vm.Fn Tryd.prog 25 [] [(.agg [(eI .u32 t_Version), (.row none 35 (t_Inputs.map E_api_Input)), (.row none 2 (t_Outputs.map E_api_Output)), (eI .u32 t_Lock)])] (eI .i64 r) [] := by
  refine fn_ab Tryd.func25 rfl (by kernel_rfl) Tryd.ntmps25 zl rfl (fr := [(0, (.agg [(eI .u32 t_Version), (.row none 35 (t_Inputs.map E_api_Input)), (.row none 2 (t_Outputs.map E_api_Output)), (eI .u32 t_Lock)]))]) rfl ?_
  unfold tx_Check at hr
  refine zq <| wS (v := (.ptr 0 0)) (h' := [some ⟨26, [(eI .u32 t_Version), (.row none 35 (t_Inputs.map E_api_Input)), (.row none 2 (t_Outputs.map E_api_Output)), (eI .u32 t_Lock)]⟩]) (sv (d_box rfl rfl rfl rfl)) <| wS (v := (eI .i64 0)) (sv (d_assign rfl)) <| zn <| AB.seq <| AB.seq ?_
  replace hr := bnd hr; obtain ⟨x7, h_1, hr⟩ := hr
  refine AB.rw <| wS (v := (.agg [(eI .u32 t_Version), (.row none 35 (t_Inputs.map E_api_Input)), (.row none 2 (t_Outputs.map E_api_Output)), (eI .u32 t_Lock)])) (sv (d_load rfl (ldP rfl (partN (ds := [(eI .u32 t_Version), (.row none 35 (t_Inputs.map E_api_Input)), (.row none 2 (t_Outputs.map E_api_Output)), (eI .u32 t_Lock)]) ti26 rfl zl rfl)))) <| wC rfl (Vm.Fn.pure (tx_fits_ok N t_Version t_Inputs t_Outputs t_Lock x7 h_1) rfl rfl) <| wS (sv (d_un rfl (un_not _ _))) <| zn ?_
  refine AB.cnd rfl (fun h2 => ?_) (fun h2 => ?_)
  · replace hr := iteT hr h2
    refine zq <| wS (v := (eI .i64 4)) (sv (d_assign rfl)) <| zn <| AB.ret <| Ex.then_ret_mk ?_
    obtain rfl := Option.some.inj hr
    exact done_ret (r1 := (eI .i64 4)) (res1 Tryd.results25 (rvT rfl)) (zG [])
  · replace hr := iteF hr h2
    refine AB.skip <| Ex.then_mk <| AB.seq ?_
    refine AB.seq_g fun K1 hK1 hG1 => ?_
    have J1 : ∀ (x18 : Bool), tx_Check_J1 N t_Version t_Inputs t_Outputs t_Lock x18 = some r → K1 (mkF 47 [(1, (.ptr 0 0)), (18, (eB x18))]) [some ⟨26, [(eI .u32 t_Version), (.row none 35 (t_Inputs.map E_api_Input)), (.row none 2 (t_Outputs.map E_api_Output)), (eI .u32 t_Lock)]⟩] := by
      intro x18 hr
      unfold tx_Check_J1 at hr
      refine hK1 _ _ ?_
      refine AB.cnd rfl (fun h3 => ?_) (fun h3 => ?_)
      · replace hr := iteT hr h3
        refine zq <| wS (v := (eI .i64 93)) (sv (d_assign rfl)) <| zn <| AB.ret <| Ex.then_ret_mk ?_
        obtain rfl := Option.some.inj hr
        exact done_ret (r1 := (eI .i64 93)) (res1 Tryd.results25 (rvT rfl)) (zG [])
      · replace hr := iteF hr h3
        refine AB.skip <| Ex.then_mk <| AB.seq <| AB.seq ?_
        replace hr := bnd hr; obtain ⟨x21, h_4, hr⟩ := hr
        refine AB.rw <| wS (v := (.ptr 0 2)) (sv (d_fa rfl (fap26_2 ..))) <| wS (v := (.row none 2 (t_Outputs.map E_api_Output))) (sv (d_load rfl (ldP rfl (part1 ti24 rfl rfl)))) <| wC rfl (Vm.Fn.pure (tx_money_ok N t_Outputs x21 h_4) rfl rfl) <| wS (sv (d_un rfl (un_not _ _))) <| zn ?_
        refine AB.cnd rfl (fun h5 => ?_) (fun h5 => ?_)
        · replace hr := iteT hr h5
          refine zq <| wS (v := (eI .i64 90)) (sv (d_assign rfl)) <| zn <| AB.ret <| Ex.then_ret_mk ?_
          obtain rfl := Option.some.inj hr
          exact done_ret (r1 := (eI .i64 90)) (res1 Tryd.results25 (rvT rfl)) (zG [])
        · replace hr := iteF hr h5
          refine AB.skip <| Ex.then_mk <| zq <| wS (v := (.mp 1)) (h' := [some ⟨26, [(eI .u32 t_Version), (.row none 35 (t_Inputs.map E_api_Input)), (.row none 2 (t_Outputs.map E_api_Output)), (eI .u32 t_Lock)]⟩, some ⟨33000, [].flatMap M_76⟩]) (sv (d_mkmap mt76 mc76 rfl rfl)) <| za rfl <| zn ?_
          refine AB.seq_g fun K2 hK2 hG2 => ?_
          have J2 : ∀ (l1 : List (S_api_OutPoint × Bool)), tx_Check_J2 N t_Version t_Inputs t_Outputs t_Lock l1 = some r → K2 (mkF 47 [(1, (.ptr 0 0)), (3, (.mp 1))]) [some ⟨26, [(eI .u32 t_Version), (.row none 35 (t_Inputs.map E_api_Input)), (.row none 2 (t_Outputs.map E_api_Output)), (eI .u32 t_Lock)]⟩, some ⟨33000, l1.flatMap M_76⟩] := by
            intro l1 hr
            unfold tx_Check_J2 at hr
            refine hK2 _ _ <| AB.seq ?_
            refine AB.seq_g fun K3 hK3 hG3 => ?_
            have J3 : ∀ (x46 : Bool), tx_Check_J3 N x46 = some r → K3 (mkF 47 [(46, (eB x46))]) [] := by
              intro x46 hr
              unfold tx_Check_J3 at hr
              refine hK3 _ _ ?_
              refine AB.cnd rfl (fun h6 => ?_) (fun h6 => ?_)
              · replace hr := iteT hr h6
                refine zq <| wS (v := (eI .i64 92)) (sv (d_assign rfl)) <| zn <| AB.ret <| Ex.then_ret_mk ?_
                obtain rfl := Option.some.inj hr
                exact done_ret (r1 := (eI .i64 92)) (res1 Tryd.results25 (rvT rfl)) (zG [])
              · replace hr := iteF hr h6
                refine AB.skip <| Ex.then_mk <| zq <| wS (v := (eI .i64 0)) (sv (d_assign rfl)) <| zn <| AB.ret ?_
                obtain rfl := Option.some.inj hr
                exact done_ret (r1 := (eI .i64 0)) (res1 Tryd.results25 (rvT rfl)) (zG [])
            rcases Bool.eq_false_or_eq_true (mget Q_76 l1 (S_api_OutPoint.mk (List.replicate 32 0) 4294967295) false) with h7 | h7
            · replace hr := iteT hr h7
              replace hr := bnd hr; obtain ⟨x44, h_8, hr⟩ := hr
              refine AB.rw <| zm rfl <| wS (v := (.agg (ar32 (eI .u8) (List.replicate 32 0) [(eI .u32 4294967295)]))) (sv (d_build rfl (bldS ti39 pl39 rfl))) <| wS (v := (eB (mget Q_76 l1 (S_api_OutPoint.mk (List.replicate 32 0) 4294967295) false))) (sv (d_lk rfl rfl (lkM' mc76 (C := M_76) (CK := C_api_OutPoint) (K := 33) (E := eB) (k := (S_api_OutPoint.mk (List.replicate 32 0) 4294967295)) (fun _ => rfl) (fun _ => rfl) (by decide) (fun _ => rfl) mt76 ko76 mk76 me76 mz76 rfl))) <| zm rfl ?_
              refine wS (v := (.agg [(eI .u32 t_Version), (.row none 35 (t_Inputs.map E_api_Input)), (.row none 2 (t_Outputs.map E_api_Output)), (eI .u32 t_Lock)])) (svG rfl rfl h7 (d_load rfl (ldP rfl (partN (ds := [(eI .u32 t_Version), (.row none 35 (t_Inputs.map E_api_Input)), (.row none 2 (t_Outputs.map E_api_Output)), (eI .u32 t_Lock)]) ti26 rfl zl rfl)))) ?_
              refine wCG (v := (eB x44)) (h' := [some ⟨26, [(eI .u32 t_Version), (.row none 35 (t_Inputs.map E_api_Input)), (.row none 2 (t_Outputs.map E_api_Output)), (eI .u32 t_Lock)]⟩, some ⟨33000, l1.flatMap M_76⟩]) rfl rfl h7 rfl (Vm.Fn.pure (tx_Coinbase_ok N t_Version t_Inputs t_Outputs t_Lock x44 h_8) rfl rfl) <| wS (svG rfl rfl h7 (d_un rfl (un_not _ _))) <| wS (v := (eB (!x44))) (sv (d_pickT rfl h7 rfl)) <| zn ?_
              exact hG3 _ _ _ _ (zG []) (J3 (!x44) hr)
            · replace hr := iteF hr h7
              refine AB.rw <| zm rfl <| wS (v := (.agg (ar32 (eI .u8) (List.replicate 32 0) [(eI .u32 4294967295)]))) (sv (d_build rfl (bldS ti39 pl39 rfl))) <| wS (v := (eB (mget Q_76 l1 (S_api_OutPoint.mk (List.replicate 32 0) 4294967295) false))) (sv (d_lk rfl rfl (lkM' mc76 (C := M_76) (CK := C_api_OutPoint) (K := 33) (E := eB) (k := (S_api_OutPoint.mk (List.replicate 32 0) 4294967295)) (fun _ => rfl) (fun _ => rfl) (by decide) (fun _ => rfl) mt76 ko76 mk76 me76 mz76 rfl))) <| zm rfl <| wS (svX rfl rfl h7) <| wS (svX rfl rfl h7) <| wS (svX rfl rfl h7) <| wS (v := (eB false)) (sv (d_pickF rfl h7 rfl)) <| zn ?_
              exact hG3 _ _ _ _ (zG []) (J3 false hr)
          refine zq <| wS (v := (.ptr 0 1)) (sv (d_fa rfl (fap26_1 ..))) <| wS (v := (.row none 35 (t_Inputs.map E_api_Input))) (sv (d_load rfl (ldP rfl (part1 ti23 rfl rfl)))) <| wS (v := (eI .i64 (t_Inputs.length : Int))) (sv (d_len rfl (lenR ti23))) <| wS (v := (eI .i64 0)) (sv (d_move rfl)) <| zn ?_
          replace hr := bnd hr; obtain ⟨res4, hL4, hr⟩ := hr
          refine AB.block <| AB.loopN (fun m s h => ∃ (x27 : Int) (l1_1 : List (S_api_OutPoint × Bool)), tx_Check_L4 N t_Version t_Inputs t_Outputs t_Lock m x27 l1_1 = some res4 ∧ Ghost 0 s h (mkF 47 [(1, (.ptr 0 0)), (3, (.mp 1)), (25, (.row none 35 (t_Inputs.map E_api_Input))), (26, (eI .i64 (t_Inputs.length : Int))), (27, (eI .i64 x27))]) [some ⟨26, [(eI .u32 t_Version), (.row none 35 (t_Inputs.map E_api_Input)), (.row none 2 (t_Outputs.map E_api_Output)), (eI .u32 t_Lock)]⟩, some ⟨33000, l1_1.flatMap M_76⟩]) (n := N) ⟨0, [], hL4, (zG [0, 1])⟩ (by rintro s h ⟨_, _, h0, _⟩; simp [tx_Check_L4] at h0) ?_
          rintro m4 s h ⟨x27, l1_1, hr4, hg⟩
          refine AB.ghost hg ?_
          clear hg hL4
          rw [tx_Check_L4] at hr4
          refine zq <| wS (sv (d_bin rfl rfl (bin_lss ..))) <| zn <| AB.seq ?_
          refine AB.cnd rfl (fun h9 => ?_) (fun h9 => ?_)
          · replace hr4 := iteT hr4 h9
            refine AB.skip <| Ex.then_mk <| AB.seq <| AB.block <| AB.seq ?_
            replace hr4 := bnd hr4; obtain ⟨x29, h_10, hr4⟩ := hr4
            refine AB.rw <| wS (sv (d_ia rfl rfl (iaR ti23 ti42 h_10))) <| wS (v := (E_api_Input x29)) (sv (d_load rfl (ldR h_10 (partN (ds := (ar32 (eI .u8) x29.Prev.Tx [(eI .u32 x29.Prev.Index), (eI .u32 x29.Sequence), (.row none 1 (x29.Witness.map (eL 1 (eI .u8))))])) ti42 rfl zl rfl)))) ?_
            refine wS (v := (.ptr 2 0)) (h' := [some ⟨26, [(eI .u32 t_Version), (.row none 35 (t_Inputs.map E_api_Input)), (.row none 2 (t_Outputs.map E_api_Output)), (eI .u32 t_Lock)]⟩, some ⟨33000, l1_1.flatMap M_76⟩, some ⟨42, (ar32 (eI .u8) (List.replicate 32 0) [(eI .u32 0), (eI .u32 0), (.row (some true) 1 [])])⟩]) (sv (d_alloc ti42 rfl rfl rfl)) ?_
            refine wN (h' := [some ⟨26, [(eI .u32 t_Version), (.row none 35 (t_Inputs.map E_api_Input)), (.row none 2 (t_Outputs.map E_api_Output)), (eI .u32 t_Lock)]⟩, some ⟨33000, l1_1.flatMap M_76⟩, some ⟨42, C_api_Input x29⟩]) (sv (d_store rfl rfl (stP ti42 rfl rfl rfl zl rfl))) <| zn <| AB.seq <| zq <| zm rfl <| wS (v := (.ptr 2 0)) (sv (d_fa rfl (fap42_0 ..))) <| wS (v := (E_api_OutPoint x29.Prev)) (sv (d_load rfl (ldP rfl (partN (ds := (ar32 (eI .u8) x29.Prev.Tx [(eI .u32 x29.Prev.Index)])) ti39 rfl zl rfl)))) ?_
            refine wS (v := (eB (mget Q_76 l1_1 x29.Prev false))) (sv (d_lk rfl rfl (lkM' mc76 (C := M_76) (CK := C_api_OutPoint) (K := 33) (E := eB) (k := x29.Prev) (fun _ => rfl) (fun _ => rfl) (by decide) (fun _ => rfl) mt76 ko76 mk76 me76 mz76 rfl))) <| zn ?_
            refine AB.cnd rfl (fun h11 => ?_) (fun h11 => ?_)
            · replace hr4 := iteT hr4 h11
              refine zq <| wS (v := (eI .i64 91)) (sv (d_assign rfl)) <| zn <| AB.ret <| Ex.then_ret_mk <| Ex.inBlock_ret_mk <| Ex.then_ret_mk <| Ex.then_ret_mk <| Ex.inBlock_ret_mk <| Ex.then_ret_mk ?_
              obtain rfl := Option.some.inj hr4
              obtain rfl := Option.some.inj hr
              exact done_ret (r1 := (eI .i64 91)) (res1 Tryd.results25 (rvT rfl)) (zG [])
            · replace hr4 := iteF hr4 h11
              refine AB.skip <| Ex.then_mk <| AB.rw <| zm rfl <| wS (v := (.ptr 2 0)) (sv (d_fa rfl (fap42_0 ..))) <| wS (v := (E_api_OutPoint x29.Prev)) (sv (d_load rfl (ldP rfl (partN (ds := (ar32 (eI .u8) x29.Prev.Tx [(eI .u32 x29.Prev.Index)])) ti39 rfl zl rfl)))) ?_
              refine wN (h' := [some ⟨26, [(eI .u32 t_Version), (.row none 35 (t_Inputs.map E_api_Input)), (.row none 2 (t_Outputs.map E_api_Output)), (eI .u32 t_Lock)]⟩, some ⟨33000, (mput Q_76 l1_1 x29.Prev true).flatMap M_76⟩, some ⟨42, C_api_Input x29⟩]) (sv (d_upd rfl rfl rfl (upM' mc76 (C := M_76) (CK := C_api_OutPoint) (K := 33) (E := eB) (k := x29.Prev) (v := true) (fun _ => rfl) (fun _ => rfl) (by decide) (fun _ => rfl) (fun _ => rfl) (fun _ => rfl) mt76 ko76 mk76 me76 rfl rfl))) <| OpsW.nil <| Ex.inBlock_mk <| Ex.then_mk <| AB.rw ?_
              refine wS (v := (eI .i64 (IntKind.i64.wrap (x27 + 1)))) (sv (d_bin rfl rfl (bin_add ..))) <| zm rfl <| zn ?_
              exact ⟨IntKind.i64.wrap (x27 + 1), mput Q_76 l1_1 x29.Prev true, hr4, (zG [0, 1])⟩
          · replace hr4 := iteF hr4 h9
            refine AB.exit <| Ex.then_exit_mk <| Ex.then_exit_mk <| Ex.inBlock_same_mk ?_
            obtain rfl := Option.some.inj hr4
            refine Ex.then_mk ?_
            exact hG2 _ _ _ _ (zG [0, 1]) (J2 l1_1 hr)
    rcases Bool.eq_false_or_eq_true ((t_Inputs.length : Int) == 0) with h12 | h12
    · replace hr := iteT hr h12
      refine AB.rw <| wS (v := (.ptr 0 1)) (sv (d_fa rfl (fap26_1 ..))) <| wS (v := (.row none 35 (t_Inputs.map E_api_Input))) (sv (d_load rfl (ldP rfl (part1 ti23 rfl rfl)))) <| wS (v := (eI .i64 (t_Inputs.length : Int))) (sv (d_len rfl (lenR ti23))) <| wS (v := (eB ((t_Inputs.length : Int) == 0))) (sv (d_bin rfl rfl (bin_eql ..))) <| zm rfl <| wS (svX rfl rfl h12) <| wS (svX rfl rfl h12) <| wS (svX rfl rfl h12) <| wS (svX rfl rfl h12) <| wS (v := (eB true)) (sv (d_pickT rfl h12 rfl)) <| zn ?_
      exact hG1 _ _ _ _ (zG [0]) (J1 true hr)
    · replace hr := iteF hr h12
      refine AB.rw <| wS (v := (.ptr 0 1)) (sv (d_fa rfl (fap26_1 ..))) <| wS (v := (.row none 35 (t_Inputs.map E_api_Input))) (sv (d_load rfl (ldP rfl (part1 ti23 rfl rfl)))) <| wS (v := (eI .i64 (t_Inputs.length : Int))) (sv (d_len rfl (lenR ti23))) <| wS (v := (eB ((t_Inputs.length : Int) == 0))) (sv (d_bin rfl rfl (bin_eql ..))) <| zm rfl <| wS (v := (.ptr 0 2)) (svG rfl rfl h12 (d_fa rfl (fap26_2 ..))) <| wS (v := (.row none 2 (t_Outputs.map E_api_Output))) (svG rfl rfl h12 (d_load rfl (ldP rfl (part1 ti24 rfl rfl)))) ?_
      refine wS (v := (eI .i64 (t_Outputs.length : Int))) (svG rfl rfl h12 (d_len rfl (lenR ti24))) <| wS (v := (eB ((t_Outputs.length : Int) == 0))) (svG rfl rfl h12 (d_bin rfl rfl (bin_eql ..))) <| wS (v := (eB ((t_Outputs.length : Int) == 0))) (sv (d_pickF rfl h12 rfl)) <| zn ?_
      exact hG1 _ _ _ _ (zG [0]) (J1 ((t_Outputs.length : Int) == 0) hr)
set_option maxRecDepth 20000 in
set_option maxHeartbeats 1000000 in
theorem spend_sum_ok (N : Nat) (l : List S_api_Coin) (r : Int × Bool) (hr : spend_sum N l = some r) :
    Vm.Fn Tryd.prog 26 [] [(.row none 37 (l.map E_api_Coin))] (.tup [(eI .i64 r.1), (eB r.2)]) [] := by
  refine fn_ab Tryd.func26 rfl (by kernel_rfl) Tryd.ntmps26 zl rfl (fr := [(0, (.row none 37 (l.map E_api_Coin)))]) rfl ?_
  unfold spend_sum at hr
  refine zq <| wS (v := (eI .i64 0)) (sv (d_assign rfl)) <| wS (v := (eB false)) (sv (d_assign rfl)) <| zn <| zq <| wS (v := (eI .i64 0)) (sv (d_assign rfl)) <| zn ?_
  refine AB.seq_g fun K1 hK1 hG1 => ?_
  have J1 : ∀ (total : Int), spend_sum_J1 N total = some r → K1 (mkF 32 [(4, (eI .i64 total))]) [] := by
    intro total hr
    unfold spend_sum_J1 at hr
    refine hK1 _ _ <| zq <| zm rfl <| za rfl <| wS (v := (eB true)) (sv (d_assign rfl)) <| zn <| AB.ret ?_
    obtain rfl := Option.some.inj hr
    exact done_ret (r1 := (.tup [(eI .i64 total), (eB true)])) (res2 Tryd.results26 (rvT rfl) (rvT rfl)) (zG [])
  refine zq <| zm rfl <| wS (v := (eI .i64 (l.length : Int))) (sv (d_len rfl (lenR ti46))) <| wS (v := (eI .i64 0)) (sv (d_move rfl)) <| zn ?_
  replace hr := bnd hr; obtain ⟨res2, hL2, hr⟩ := hr
  refine AB.block <| AB.loopN (fun m s h => ∃ (total_1 : Int) (x9 : Int), spend_sum_L2 N l m total_1 x9 = some res2 ∧ Ghost 0 s h (mkF 32 [(4, (eI .i64 total_1)), (7, (.row none 37 (l.map E_api_Coin))), (8, (eI .i64 (l.length : Int))), (9, (eI .i64 x9))]) []) (n := N) ⟨0, 0, hL2, (zG [])⟩ (by rintro s h ⟨_, _, h0, _⟩; simp [spend_sum_L2] at h0) ?_
  rintro m2 s h ⟨total_1, x9, hr2, hg⟩
  refine AB.ghost hg ?_
  clear hg hL2
  rw [spend_sum_L2] at hr2
  refine zq <| wS (sv (d_bin rfl rfl (bin_lss ..))) <| zn <| AB.seq ?_
  refine AB.cnd rfl (fun h1 => ?_) (fun h1 => ?_)
  · replace hr2 := iteT hr2 h1
    refine AB.skip <| Ex.then_mk <| AB.seq <| AB.block <| AB.seq ?_
    replace hr2 := bnd hr2; obtain ⟨x11, h_2, hr2⟩ := hr2
    refine AB.rw <| wS (sv (d_ia rfl rfl (iaR ti46 ti45 h_2))) <| wS (v := (E_api_Coin x11)) (sv (d_load rfl (ldR h_2 (partN (ds := (ar32 (eI .u8) x11.Out.Tx [(eI .u32 x11.Out.Index), (eI .i64 x11.Output.Value), (.row none 1 (x11.Output.Script.map (eI .u8))), (eI .i64 x11.Height), (eB x11.Coinbase)])) ti45 rfl zl rfl)))) <| wS (v := (.ptr 0 0)) (h' := [some ⟨45, (ar32 (eI .u8) (List.replicate 32 0) [(eI .u32 0), (eI .i64 0), (.row (some true) 1 []), (eI .i64 0), (eB false)])⟩]) (sv (d_alloc ti45 rfl rfl rfl)) <| wN (h' := [some ⟨45, C_api_Coin x11⟩]) (sv (d_store rfl rfl (stP ti45 rfl rfl rfl zl rfl))) ?_
    refine zn <| AB.seq ?_
    refine AB.seq_g fun K3 hK3 hG3 => ?_
    have J3 : ∀ (x24 : Bool), spend_sum_J3 N l total_1 x9 x11 (spend_sum_L2 N l m2) x24 = some res2 → K3 (mkF 32 [(4, (eI .i64 total_1)), (6, (.ptr 0 0)), (7, (.row none 37 (l.map E_api_Coin))), (8, (eI .i64 (l.length : Int))), (9, (eI .i64 x9)), (24, (eB x24))]) [some ⟨45, C_api_Coin x11⟩] := by
      intro x24 hr2
      unfold spend_sum_J3 at hr2
      refine hK3 _ _ ?_
      refine AB.cnd rfl (fun h3 => ?_) (fun h3 => ?_)
      · replace hr2 := iteT hr2 h3
        refine zq <| wS (v := (eI .i64 0)) (sv (d_assign rfl)) <| wS (v := (eB false)) (sv (d_assign rfl)) <| zn <| AB.ret <| Ex.then_ret_mk <| Ex.inBlock_ret_mk <| Ex.then_ret_mk <| Ex.then_ret_mk <| Ex.inBlock_ret_mk <| Ex.then_ret_mk ?_
        obtain rfl := Option.some.inj hr2
        obtain rfl := Option.some.inj hr
        exact done_ret (r1 := (.tup [(eI .i64 0), (eB false)])) (res2 Tryd.results26 (rvT rfl) (rvT rfl)) (zG [])
      · replace hr2 := iteF hr2 h3
        refine AB.skip <| Ex.then_mk <| AB.rw <| zm rfl <| wS (v := (.ptr 0 33)) (sv (d_fa rfl (fap45_1 ..))) <| wS (v := (.ptr 0 33)) (sv (d_fa rfl (fap29_0 ..))) <| wS (v := (eI .i64 x11.Output.Value)) (sv (d_load rfl (ldP rfl (part1 ti2 rfl rfl)))) <| wS (sv (d_bin rfl rfl (bin_add ..))) <| za rfl <| OpsW.nil <| Ex.inBlock_mk <| Ex.then_mk <| AB.rw <| wS (v := (eI .i64 (IntKind.i64.wrap (x9 + 1)))) (sv (d_bin rfl rfl (bin_add ..))) <| zm rfl <| zn ?_
        exact ⟨IntKind.i64.wrap (total_1 + x11.Output.Value), IntKind.i64.wrap (x9 + 1), hr2, (zG [])⟩
    rcases Bool.eq_false_or_eq_true (decide (x11.Output.Value < 0)) with h4 | h4
    · replace hr2 := iteT hr2 h4
      refine AB.rw <| wS (v := (.ptr 0 33)) (sv (d_fa rfl (fap45_1 ..))) <| wS (v := (.ptr 0 33)) (sv (d_fa rfl (fap29_0 ..))) <| wS (v := (eI .i64 x11.Output.Value)) (sv (d_load rfl (ldP rfl (part1 ti2 rfl rfl)))) <| wS (v := (eB (decide (x11.Output.Value < 0)))) (sv (d_bin rfl rfl (bin_lss ..))) <| zm rfl <| wS (svX rfl rfl h4) <| wS (svX rfl rfl h4) <| wS (svX rfl rfl h4) <| wS (svX rfl rfl h4) <| wS (svX rfl rfl h4) <| wS (svX rfl rfl h4) <| wS (v := (eB true)) (sv (d_pickT rfl h4 rfl)) <| zn ?_
      exact hG3 _ _ _ _ (zG [0]) (J3 true hr2)
    · replace hr2 := iteF hr2 h4
      refine AB.rw <| wS (v := (.ptr 0 33)) (sv (d_fa rfl (fap45_1 ..))) <| wS (v := (.ptr 0 33)) (sv (d_fa rfl (fap29_0 ..))) <| wS (v := (eI .i64 x11.Output.Value)) (sv (d_load rfl (ldP rfl (part1 ti2 rfl rfl)))) <| wS (v := (eB (decide (x11.Output.Value < 0)))) (sv (d_bin rfl rfl (bin_lss ..))) <| zm rfl <| wS (v := (.ptr 0 33)) (svG rfl rfl h4 (d_fa rfl (fap45_1 ..))) <| wS (v := (.ptr 0 33)) (svG rfl rfl h4 (d_fa rfl (fap29_0 ..))) <| wS (v := (eI .i64 x11.Output.Value)) (svG rfl rfl h4 (d_load rfl (ldP rfl (part1 ti2 rfl rfl)))) <| wS (svG rfl rfl h4 (d_move rfl)) ?_
      refine wS (v := (eI .i64 (IntKind.i64.wrap (2100000000000000 - total_1)))) (svG rfl rfl h4 (d_bin rfl rfl (bin_sub ..))) <| wS (svG rfl rfl h4 (d_bin rfl rfl (bin_gtr ..))) <| wS (v := (eB (decide ((IntKind.i64.wrap (2100000000000000 - total_1)) < x11.Output.Value)))) (sv (d_pickF rfl h4 rfl)) <| zn ?_
      exact hG3 _ _ _ _ (zG [0]) (J3 (decide ((IntKind.i64.wrap (2100000000000000 - total_1)) < x11.Output.Value)) hr2)
  · replace hr2 := iteF hr2 h1
    refine AB.exit <| Ex.then_exit_mk <| Ex.then_exit_mk <| Ex.inBlock_same_mk ?_
    obtain rfl := Option.some.inj hr2
    refine Ex.then_mk ?_
    exact hG1 _ _ _ _ (zG []) (J1 total_1 hr)
set_option maxRecDepth 20000 in
set_option maxHeartbeats 1000000 in
theorem spend_Fee_ok (N : Nat) (t_Version : Int) (t_Inputs : List S_api_Input) (t_Outputs : List S_api_Output) (t_Lock : Int) (l : List S_api_Coin) (r : Int × Int) (hr : spend_Fee N t_Version t_Inputs t_Outputs t_Lock l = some r) :
    Vm.Fn Tryd.prog 9 [] [(.agg [(eI .u32 t_Version), (.row none 35 (t_Inputs.map E_api_Input)), (.row none 2 (t_Outputs.map E_api_Output)), (eI .u32 t_Lock)]), (.row none 37 (l.map E_api_Coin))] (.tup [(eI .i64 r.1), (eI .i64 r.2)]) [] := by
  refine fn_ab Tryd.func9 rfl (by kernel_rfl) Tryd.ntmps9 zl rfl (fr := [(0, (.agg [(eI .u32 t_Version), (.row none 35 (t_Inputs.map E_api_Input)), (.row none 2 (t_Outputs.map E_api_Output)), (eI .u32 t_Lock)])), (1, (.row none 37 (l.map E_api_Coin)))]) rfl ?_
  unfold spend_Fee at hr
  refine zq <| wS (v := (.ptr 0 0)) (h' := [some ⟨26, [(eI .u32 t_Version), (.row none 35 (t_Inputs.map E_api_Input)), (.row none 2 (t_Outputs.map E_api_Output)), (eI .u32 t_Lock)]⟩]) (sv (d_box rfl rfl rfl rfl)) <| wS (v := (eI .i64 0)) (sv (d_assign rfl)) <| wS (v := (eI .i64 0)) (sv (d_assign rfl)) <| zn <| AB.seq <| AB.seq ?_
  replace hr := bnd hr; obtain ⟨x14, h_1, hr⟩ := hr
  refine AB.rw <| wS (v := (.agg [(eI .u32 t_Version), (.row none 35 (t_Inputs.map E_api_Input)), (.row none 2 (t_Outputs.map E_api_Output)), (eI .u32 t_Lock)])) (sv (d_load rfl (ldP rfl (partN (ds := [(eI .u32 t_Version), (.row none 35 (t_Inputs.map E_api_Input)), (.row none 2 (t_Outputs.map E_api_Output)), (eI .u32 t_Lock)]) ti26 rfl zl rfl)))) <| wC rfl (Vm.Fn.pure (tx_Check_ok N t_Version t_Inputs t_Outputs t_Lock x14 h_1) rfl rfl) <| za rfl <| zn <| zq <| zm rfl <| wS (v := (eB (x14 != 0))) (sv (d_bin rfl rfl (bin_neq ..))) <| zn ?_
  refine AB.cnd rfl (fun h2 => ?_) (fun h2 => ?_)
  · replace hr := iteT hr h2
    refine zq <| zm rfl <| wS (v := (eI .i64 0)) (sv (d_assign rfl)) <| za rfl <| zn <| AB.ret <| Ex.then_ret_mk ?_
    obtain rfl := Option.some.inj hr
    exact done_ret (r1 := (.tup [(eI .i64 0), (eI .i64 x14)])) (res2 Tryd.results9 (rvT rfl) (rvT rfl)) (zG [])
  · replace hr := iteF hr h2
    refine AB.skip <| Ex.then_mk <| AB.seq <| zq <| zm rfl <| wS (v := (eI .i64 (l.length : Int))) (sv (d_len rfl (lenR ti46))) <| wS (v := (.ptr 0 1)) (sv (d_fa rfl (fap26_1 ..))) <| wS (v := (.row none 35 (t_Inputs.map E_api_Input))) (sv (d_load rfl (ldP rfl (part1 ti23 rfl rfl)))) <| wS (v := (eI .i64 (t_Inputs.length : Int))) (sv (d_len rfl (lenR ti23))) <| wS (sv (d_bin rfl rfl (bin_neq ..))) <| zn ?_
    refine AB.cnd rfl (fun h3 => ?_) (fun h3 => ?_)
    · replace hr := iteT hr h3
      refine zq <| wS (v := (eI .i64 0)) (sv (d_assign rfl)) <| wS (v := (eI .i64 8)) (sv (d_assign rfl)) <| zn <| AB.ret <| Ex.then_ret_mk ?_
      obtain rfl := Option.some.inj hr
      exact done_ret (r1 := (.tup [(eI .i64 0), (eI .i64 8)])) (res2 Tryd.results9 (rvT rfl) (rvT rfl)) (zG [])
    · replace hr := iteF hr h3
      refine AB.skip <| Ex.then_mk ?_
      refine AB.seq_g fun K1 hK1 hG1 => ?_
      have J1 : spend_Fee_J1 N t_Version t_Inputs t_Outputs t_Lock l = some r → K1 (mkF 63 [(1, (.row none 37 (l.map E_api_Coin))), (2, (.ptr 0 0))]) [some ⟨26, [(eI .u32 t_Version), (.row none 35 (t_Inputs.map E_api_Input)), (.row none 2 (t_Outputs.map E_api_Output)), (eI .u32 t_Lock)]⟩] := by
        intro hr
        unfold spend_Fee_J1 at hr
        refine hK1 _ _ <| AB.seq ?_
        replace hr := bnd hr; obtain ⟨x43, h_4, hr⟩ := hr
        refine AB.rw <| zm rfl <| wC rfl (Vm.Fn.pure (spend_sum_ok N l x43 h_4) rfl rfl) <| zm rfl <| wS (v := (eI .i64 x43.1)) (sv (d_ext rfl rfl)) <| wS (v := (eB x43.2)) (sv (d_ext rfl rfl)) <| za rfl <| za rfl <| zn <| AB.seq <| zq <| zm rfl <| wS (sv (d_un rfl (un_not _ _))) <| zn ?_
        refine AB.cnd rfl (fun h5 => ?_) (fun h5 => ?_)
        · replace hr := iteT hr h5
          refine zq <| wS (v := (eI .i64 0)) (sv (d_assign rfl)) <| wS (v := (eI .i64 90)) (sv (d_assign rfl)) <| zn <| AB.ret <| Ex.then_ret_mk ?_
          obtain rfl := Option.some.inj hr
          exact done_ret (r1 := (.tup [(eI .i64 0), (eI .i64 90)])) (res2 Tryd.results9 (rvT rfl) (rvT rfl)) (zG [])
        · replace hr := iteF hr h5
          refine AB.skip <| Ex.then_mk ?_
          refine AB.seq_g fun K2 hK2 hG2 => ?_
          have J2 : ∀ (fee : Int), spend_Fee_J2 N fee = some r → K2 (mkF 63 [(9, (eI .i64 fee))]) [] := by
            intro fee hr
            unfold spend_Fee_J2 at hr
            refine hK2 _ _ <| AB.seq <| zq <| zm rfl <| wS (v := (eB (decide (fee < 0)))) (sv (d_bin rfl rfl (bin_lss ..))) <| zn ?_
            refine AB.cnd rfl (fun h6 => ?_) (fun h6 => ?_)
            · replace hr := iteT hr h6
              refine zq <| wS (v := (eI .i64 0)) (sv (d_assign rfl)) <| wS (v := (eI .i64 100)) (sv (d_assign rfl)) <| zn <| AB.ret <| Ex.then_ret_mk ?_
              obtain rfl := Option.some.inj hr
              exact done_ret (r1 := (.tup [(eI .i64 0), (eI .i64 100)])) (res2 Tryd.results9 (rvT rfl) (rvT rfl)) (zG [])
            · replace hr := iteF hr h6
              refine AB.skip <| Ex.then_mk <| zq <| zm rfl <| za rfl <| wS (v := (eI .i64 0)) (sv (d_assign rfl)) <| zn <| AB.ret ?_
              obtain rfl := Option.some.inj hr
              exact done_ret (r1 := (.tup [(eI .i64 fee), (eI .i64 0)])) (res2 Tryd.results9 (rvT rfl) (rvT rfl)) (zG [])
          refine zq <| wS (v := (.ptr 0 2)) (sv (d_fa rfl (fap26_2 ..))) <| wS (v := (.row none 2 (t_Outputs.map E_api_Output))) (sv (d_load rfl (ldP rfl (part1 ti24 rfl rfl)))) <| wS (v := (eI .i64 (t_Outputs.length : Int))) (sv (d_len rfl (lenR ti24))) <| wS (v := (eI .i64 0)) (sv (d_move rfl)) <| zn ?_
          replace hr := bnd hr; obtain ⟨res3, hL3, hr⟩ := hr
          refine AB.block <| AB.loopN (fun m s h => ∃ (fee_1 : Int) (x51 : Int), spend_Fee_L3 N t_Outputs m fee_1 x51 = some res3 ∧ Ghost 0 s h (mkF 63 [(9, (eI .i64 fee_1)), (49, (.row none 2 (t_Outputs.map E_api_Output))), (50, (eI .i64 (t_Outputs.length : Int))), (51, (eI .i64 x51))]) []) (n := N) ⟨x43.1, 0, hL3, (zG [])⟩ (by rintro s h ⟨_, _, h0, _⟩; simp [spend_Fee_L3] at h0) ?_
          rintro m3 s h ⟨fee_1, x51, hr3, hg⟩
          refine AB.ghost hg ?_
          clear hg hL3
          rw [spend_Fee_L3] at hr3
          refine zq <| wS (sv (d_bin rfl rfl (bin_lss ..))) <| zn <| AB.seq ?_
          refine AB.cnd rfl (fun h7 => ?_) (fun h7 => ?_)
          · replace hr3 := iteT hr3 h7
            refine AB.skip <| Ex.then_mk <| AB.seq <| AB.block <| AB.seq ?_
            replace hr3 := bnd hr3; obtain ⟨x53, h_8, hr3⟩ := hr3
            refine AB.rw <| wS (sv (d_ia rfl rfl (iaR ti24 ti29 h_8))) <| wS (v := (.agg [(eI .i64 x53.Value), (.row none 1 (x53.Script.map (eI .u8)))])) (sv (d_load rfl (ldR h_8 (partN (ds := [(eI .i64 x53.Value), (.row none 1 (x53.Script.map (eI .u8)))]) ti29 rfl zl rfl)))) <| wS (v := (.ptr 0 0)) (h' := [some ⟨29, [(eI .i64 0), (.row (some true) 1 [])]⟩]) (sv (d_alloc ti29 rfl rfl rfl)) <| wN (h' := [some ⟨29, [(eI .i64 x53.Value), (.row none 1 (x53.Script.map (eI .u8)))]⟩]) (sv (d_store rfl rfl (stP ti29 rfl rfl rfl zl rfl))) <| zn <| AB.rw <| zm rfl <| wS (v := (.ptr 0 0)) (sv (d_fa rfl (fap29_0 ..))) ?_
            refine wS (v := (eI .i64 x53.Value)) (sv (d_load rfl (ldP rfl (part1 ti2 rfl rfl)))) <| wS (sv (d_bin rfl rfl (bin_sub ..))) <| za rfl <| OpsW.nil <| Ex.inBlock_mk <| Ex.then_mk <| AB.rw <| wS (v := (eI .i64 (IntKind.i64.wrap (x51 + 1)))) (sv (d_bin rfl rfl (bin_add ..))) <| zm rfl <| zn ?_
            exact ⟨IntKind.i64.wrap (fee_1 - x53.Value), IntKind.i64.wrap (x51 + 1), hr3, (zG [])⟩
          · replace hr3 := iteF hr3 h7
            refine AB.exit <| Ex.then_exit_mk <| Ex.then_exit_mk <| Ex.inBlock_same_mk ?_
            obtain rfl := Option.some.inj hr3
            refine Ex.then_mk ?_
            exact hG2 _ _ _ _ (zG []) (J2 fee_1 hr)
      refine zq <| zm rfl <| wS (v := (eI .i64 (l.length : Int))) (sv (d_len rfl (lenR ti46))) <| wS (v := (eI .i64 0)) (sv (d_move rfl)) <| zn ?_
      replace hr := bnd hr; obtain ⟨res4, hL4, hr⟩ := hr
      refine AB.block <| AB.loopN (fun m s h => ∃ (x26 : Int), spend_Fee_L4 N t_Version t_Inputs t_Outputs t_Lock l m x26 = some res4 ∧ Ghost 0 s h (mkF 63 [(1, (.row none 37 (l.map E_api_Coin))), (2, (.ptr 0 0)), (24, (.row none 37 (l.map E_api_Coin))), (25, (eI .i64 (l.length : Int))), (26, (eI .i64 x26))]) [some ⟨26, [(eI .u32 t_Version), (.row none 35 (t_Inputs.map E_api_Input)), (.row none 2 (t_Outputs.map E_api_Output)), (eI .u32 t_Lock)]⟩]) (n := N) ⟨0, hL4, (zG [0])⟩ (by rintro s h ⟨_, h0, _⟩; simp [spend_Fee_L4] at h0) ?_
      rintro m4 s h ⟨x26, hr4, hg⟩
      refine AB.ghost hg ?_
      clear hg hL4
      rw [spend_Fee_L4] at hr4
      refine zq <| wS (sv (d_bin rfl rfl (bin_lss ..))) <| zn <| AB.seq ?_
      refine AB.cnd rfl (fun h9 => ?_) (fun h9 => ?_)
      · replace hr4 := iteT hr4 h9
        refine AB.skip <| Ex.then_mk <| AB.seq <| AB.block <| AB.seq ?_
        replace hr4 := bnd hr4; obtain ⟨x29, h_10, hr4⟩ := hr4
        refine AB.rw <| zm rfl <| wS (sv (d_ia rfl rfl (iaR ti46 ti45 h_10))) <| wS (v := (E_api_Coin x29)) (sv (d_load rfl (ldR h_10 (partN (ds := (ar32 (eI .u8) x29.Out.Tx [(eI .u32 x29.Out.Index), (eI .i64 x29.Output.Value), (.row none 1 (x29.Output.Script.map (eI .u8))), (eI .i64 x29.Height), (eB x29.Coinbase)])) ti45 rfl zl rfl)))) ?_
        refine wS (v := (.ptr 1 0)) (h' := [some ⟨26, [(eI .u32 t_Version), (.row none 35 (t_Inputs.map E_api_Input)), (.row none 2 (t_Outputs.map E_api_Output)), (eI .u32 t_Lock)]⟩, some ⟨45, (ar32 (eI .u8) (List.replicate 32 0) [(eI .u32 0), (eI .i64 0), (.row (some true) 1 []), (eI .i64 0), (eB false)])⟩]) (sv (d_alloc ti45 rfl rfl rfl)) <| za rfl <| wN (h' := [some ⟨26, [(eI .u32 t_Version), (.row none 35 (t_Inputs.map E_api_Input)), (.row none 2 (t_Outputs.map E_api_Output)), (eI .u32 t_Lock)]⟩, some ⟨45, C_api_Coin x29⟩]) (sv (d_store rfl rfl (stP ti45 rfl rfl rfl zl rfl))) <| zn <| AB.seq ?_
        replace hr4 := bnd hr4; obtain ⟨x36, h_11, hr4⟩ := hr4
        refine AB.rg E0 (fun _ => by show drawOk (fun _ => false) _ = true; decide +kernel) <| tS (v := (.ptr 1 0)) (sv (d_fa rfl (fap45_0 ..))) <| tS (v := (E_api_OutPoint x29.Out)) (sv (d_load rfl (ldP rfl (partN (ds := (ar32 (eI .u8) x29.Out.Tx [(eI .u32 x29.Out.Index)])) ti39 rfl zl rfl)))) <| tS (v := (.ptr 0 1)) (sv (d_fa rfl (fap26_1 ..))) <| tS (v := (.row none 35 (t_Inputs.map E_api_Input))) (sv (d_load rfl (ldP rfl (part1 ti23 rfl rfl)))) <| tS (sv (d_move rfl)) <| tS (sv (d_ia rfl rfl (iaR ti23 ti42 h_11))) <| tS (sv (d_fa rfl (fae42_0 ..))) ?_
        refine tS (v := (E_api_OutPoint x36.Prev)) (sv (d_load rfl (ldR h_11 (partN (ds := (ar32 (eI .u8) x36.Prev.Tx [(eI .u32 x36.Prev.Index)])) ti39 rfl zl rfl)))) <| tS (sv (d_bin rfl rfl (bin_neqP (d := 9) ti39 rfl ft39 zl eg39 rfl rfl rfl rfl rfl))) <| OpsTo.nil <| Ex.then_mk ?_
        refine AB.cnd rfl (fun h12 => ?_) (fun h12 => ?_)
        · replace hr4 := iteT hr4 h12
          refine zq <| wS (v := (eI .i64 0)) (sv (d_assign rfl)) <| wS (v := (eI .i64 101)) (sv (d_assign rfl)) <| zn <| AB.ret <| Ex.inBlock_ret_mk <| Ex.then_ret_mk <| Ex.then_ret_mk <| Ex.inBlock_ret_mk <| Ex.then_ret_mk ?_
          obtain rfl := Option.some.inj hr4
          obtain rfl := Option.some.inj hr
          exact done_ret (r1 := (.tup [(eI .i64 0), (eI .i64 101)])) (res2 Tryd.results9 (rvT rfl) (rvT rfl)) (zG [])
        · replace hr4 := iteF hr4 h12
          refine AB.skip <| Ex.inBlock_mk <| Ex.then_mk <| AB.rw <| wS (v := (eI .i64 (IntKind.i64.wrap (x26 + 1)))) (sv (d_bin rfl rfl (bin_add ..))) <| zm rfl <| zn ?_
          exact ⟨IntKind.i64.wrap (x26 + 1), hr4, (zG [0])⟩
      · replace hr4 := iteF hr4 h9
        refine AB.exit <| Ex.then_exit_mk <| Ex.then_exit_mk <| Ex.inBlock_same_mk ?_
        obtain rfl := Option.some.inj hr4
        refine Ex.then_mk ?_
        exact hG1 _ _ _ _ (zG [0]) (J1 hr)
set_option maxRecDepth 20000 in
set_option maxHeartbeats 1000000 in
theorem law10_sane_ok (N : Nat) (r : Bool) (hr : law10_sane N = some r) :
    Vm.Fn Tryd.prog 5 [] [] (eB r) [] := by
  refine fn_ab Tryd.func5 rfl (by kernel_rfl) Tryd.ntmps5 zl rfl (fr := []) rfl ?_
  unfold law10_sane at hr
  refine zq <| wS (v := (eB false)) (sv (d_assign rfl)) <| zn <| zq <| wS (v := (.agg (ar32 (eI .u8) (List.replicate 32 0) [(eI .u32 1)]))) (sv (d_build rfl (bldS ti39 pl39 rfl))) <| wS (v := (.agg (ar32 (eI .u8) (List.replicate 32 0) [(eI .u32 2)]))) (sv (d_build rfl (bldS ti39 pl39 rfl))) <| wS (v := (.ptr 0 0)) (h' := [some ⟨39, (ar32 (eI .u8) (List.replicate 32 0) [(eI .u32 0)])⟩]) (sv (d_alloc ti39 rfl rfl rfl)) ?_
  refine wS (v := (.ptr 1 0)) (h' := [some ⟨39, (ar32 (eI .u8) (List.replicate 32 0) [(eI .u32 0)])⟩, some ⟨39, (ar32 (eI .u8) (List.replicate 32 0) [(eI .u32 0)])⟩]) (sv (d_alloc ti39 rfl rfl rfl)) <| wN (h' := [some ⟨39, (ar32 (eI .u8) (List.replicate 32 0) [(eI .u32 1)])⟩, some ⟨39, (ar32 (eI .u8) (List.replicate 32 0) [(eI .u32 0)])⟩]) (sv (d_store rfl rfl (stP ti39 rfl rfl rfl zl rfl))) <| wN (h' := [some ⟨39, (ar32 (eI .u8) (List.replicate 32 0) [(eI .u32 1)])⟩, some ⟨39, (ar32 (eI .u8) (List.replicate 32 0) [(eI .u32 2)])⟩]) (sv (d_store rfl rfl (stP ti39 rfl rfl rfl zl rfl))) <| zn <| zq ?_
  refine wS (v := (.agg (ar32 (eI .u8) (List.replicate 32 0) [(eI .u32 1)]))) (sv (d_load rfl (ldP rfl (partN (ds := (ar32 (eI .u8) (List.replicate 32 0) [(eI .u32 1)])) ti39 rfl zl rfl)))) <| wS (v := (.agg (ar32 (eI .u8) (List.replicate 32 0) [(eI .u32 1), (eI .u32 0), (.row (some true) 1 [])]))) (sv (d_build rfl (bldS ti42 pl42 rfl))) <| wS (v := (.agg (ar32 (eI .u8) (List.replicate 32 0) [(eI .u32 2)]))) (sv (d_load rfl (ldP rfl (partN (ds := (ar32 (eI .u8) (List.replicate 32 0) [(eI .u32 2)])) ti39 rfl zl rfl)))) ?_
  refine wS (v := (.agg (ar32 (eI .u8) (List.replicate 32 0) [(eI .u32 2), (eI .u32 0), (.row (some true) 1 [])]))) (sv (d_build rfl (bldS ti42 pl42 rfl))) ?_
  refine OpsW.ghost (Ghost.weak (fr' := [(0, (eB false)), (1, (.ptr 0 0)), (2, (.ptr 1 0)), (9, (.agg (ar32 (eI .u8) (List.replicate 32 0) [(eI .u32 1)]))), (10, (.agg (ar32 (eI .u8) (List.replicate 32 0) [(eI .u32 2)]))), (11, (.agg (ar32 (eI .u8) (List.replicate 32 0) [(eI .u32 1)]))), (12, (.agg (ar32 (eI .u8) (List.replicate 32 0) [(eI .u32 1), (eI .u32 0), (.row none 1 ([].map (eL 1 (eI .u8))))]))), (13, (.agg (ar32 (eI .u8) (List.replicate 32 0) [(eI .u32 2)]))), (14, (.agg (ar32 (eI .u8) (List.replicate 32 0) [(eI .u32 2), (eI .u32 0), (.row (some true) 1 [])])))]) (FLe.same rfl (FLe.same rfl (FLe.same rfl (FLe.same rfl (FLe.same rfl (FLe.same rfl (FLe.le rfl (V.le_agg (les_ar32 (V.les_cons (V.le_refl _ _) (V.les_cons (V.le_refl _ _) (V.les_cons V.le_nil V.les_nil))))) (FLe.same rfl (FLe.same rfl FLe.nil)))))))))) ?_
  refine OpsW.ghost (Ghost.weak (fr' := [(0, (eB false)), (1, (.ptr 0 0)), (2, (.ptr 1 0)), (9, (.agg (ar32 (eI .u8) (List.replicate 32 0) [(eI .u32 1)]))), (10, (.agg (ar32 (eI .u8) (List.replicate 32 0) [(eI .u32 2)]))), (11, (.agg (ar32 (eI .u8) (List.replicate 32 0) [(eI .u32 1)]))), (12, (.agg (ar32 (eI .u8) (List.replicate 32 0) [(eI .u32 1), (eI .u32 0), (.row none 1 ([].map (eL 1 (eI .u8))))]))), (13, (.agg (ar32 (eI .u8) (List.replicate 32 0) [(eI .u32 2)]))), (14, (.agg (ar32 (eI .u8) (List.replicate 32 0) [(eI .u32 2), (eI .u32 0), (.row none 1 ([].map (eL 1 (eI .u8))))])))]) (FLe.same rfl (FLe.same rfl (FLe.same rfl (FLe.same rfl (FLe.same rfl (FLe.same rfl (FLe.same rfl (FLe.same rfl (FLe.le rfl (V.le_agg (les_ar32 (V.les_cons (V.le_refl _ _) (V.les_cons (V.le_refl _ _) (V.les_cons V.le_nil V.les_nil))))) FLe.nil)))))))))) ?_
  refine wS (v := (.sl 2 0 2 35 true)) (h' := [some ⟨39, (ar32 (eI .u8) (List.replicate 32 0) [(eI .u32 1)])⟩, some ⟨39, (ar32 (eI .u8) (List.replicate 32 0) [(eI .u32 2)])⟩, some ⟨42, [(S_api_Input.mk (S_api_OutPoint.mk (List.replicate 32 0) 1) 0 []), (S_api_Input.mk (S_api_OutPoint.mk (List.replicate 32 0) 2) 0 [])].flatMap C_api_Input⟩]) (sv (d_buildS rfl (bldLK (C := C_api_Input) (xs := [(S_api_Input.mk (S_api_OutPoint.mk (List.replicate 32 0) 1) 0 []), (S_api_Input.mk (S_api_OutPoint.mk (List.replicate 32 0) 2) 0 [])]) (K := 35) (fun _ => rfl) (fun _ => rfl) ti23 ti42 ⟨zl, zl, zl⟩ rfl rfl rfl rfl rfl rfl))) ?_
  refine wS (v := (.agg [(eI .i64 10), (.row (some true) 1 [])])) (sv (d_build rfl (bldS ti29 pl29 rfl))) ?_
  refine OpsW.ghost (Ghost.weak (fr' := [(0, (eB false)), (1, (.ptr 0 0)), (2, (.ptr 1 0)), (9, (.agg (ar32 (eI .u8) (List.replicate 32 0) [(eI .u32 1)]))), (10, (.agg (ar32 (eI .u8) (List.replicate 32 0) [(eI .u32 2)]))), (11, (.agg (ar32 (eI .u8) (List.replicate 32 0) [(eI .u32 1)]))), (12, (.agg (ar32 (eI .u8) (List.replicate 32 0) [(eI .u32 1), (eI .u32 0), (.row none 1 ([].map (eL 1 (eI .u8))))]))), (13, (.agg (ar32 (eI .u8) (List.replicate 32 0) [(eI .u32 2)]))), (14, (.agg (ar32 (eI .u8) (List.replicate 32 0) [(eI .u32 2), (eI .u32 0), (.row none 1 ([].map (eL 1 (eI .u8))))]))), (15, (.sl 2 0 2 35 true)), (16, (.agg [(eI .i64 10), (.row none 1 ([].map (eI .u8)))]))]) (FLe.same rfl (FLe.same rfl (FLe.same rfl (FLe.same rfl (FLe.same rfl (FLe.same rfl (FLe.same rfl (FLe.same rfl (FLe.same rfl (FLe.same rfl (FLe.le rfl (V.le_agg (V.les_cons (V.le_refl _ _) (V.les_cons V.le_nil V.les_nil))) FLe.nil)))))))))))) ?_
  refine wS (v := (.sl 3 0 1 2 true)) (h' := [some ⟨39, (ar32 (eI .u8) (List.replicate 32 0) [(eI .u32 1)])⟩, some ⟨39, (ar32 (eI .u8) (List.replicate 32 0) [(eI .u32 2)])⟩, some ⟨42, [(S_api_Input.mk (S_api_OutPoint.mk (List.replicate 32 0) 1) 0 []), (S_api_Input.mk (S_api_OutPoint.mk (List.replicate 32 0) 2) 0 [])].flatMap C_api_Input⟩, some ⟨29, [(S_api_Output.mk 10 [])].flatMap C_api_Output⟩]) (sv (d_buildS rfl (bldLK (C := C_api_Output) (xs := [(S_api_Output.mk 10 [])]) (K := 2) (fun _ => rfl) (fun _ => rfl) ti24 ti29 ⟨zl, zl, zl⟩ rfl rfl rfl rfl rfl rfl))) ?_
  refine wS (v := (.agg [(eI .u32 0), (.sl 2 0 2 35 true), (.sl 3 0 1 2 true), (eI .u32 0)])) (sv (d_build rfl (bldS ti26 pl26 rfl))) ?_
  refine wS (v := (.ptr 4 0)) (h' := [some ⟨39, (ar32 (eI .u8) (List.replicate 32 0) [(eI .u32 1)])⟩, some ⟨39, (ar32 (eI .u8) (List.replicate 32 0) [(eI .u32 2)])⟩, some ⟨42, [(S_api_Input.mk (S_api_OutPoint.mk (List.replicate 32 0) 1) 0 []), (S_api_Input.mk (S_api_OutPoint.mk (List.replicate 32 0) 2) 0 [])].flatMap C_api_Input⟩, some ⟨29, [(S_api_Output.mk 10 [])].flatMap C_api_Output⟩, some ⟨26, [(eI .u32 0), (.row (some true) 1 []), (.row (some true) 1 []), (eI .u32 0)]⟩]) (sv (d_alloc ti26 rfl rfl rfl)) ?_
  refine wN (h' := [some ⟨39, (ar32 (eI .u8) (List.replicate 32 0) [(eI .u32 1)])⟩, some ⟨39, (ar32 (eI .u8) (List.replicate 32 0) [(eI .u32 2)])⟩, some ⟨42, [(S_api_Input.mk (S_api_OutPoint.mk (List.replicate 32 0) 1) 0 []), (S_api_Input.mk (S_api_OutPoint.mk (List.replicate 32 0) 2) 0 [])].flatMap C_api_Input⟩, some ⟨29, [(S_api_Output.mk 10 [])].flatMap C_api_Output⟩, some ⟨26, [(eI .u32 0), (.sl 2 0 2 35 true), (.sl 3 0 1 2 true), (eI .u32 0)]⟩]) (sv (d_store rfl rfl (stP ti26 rfl rfl rfl zl rfl))) <| zn <| zq ?_
  refine wS (v := (.agg (ar32 (eI .u8) (List.replicate 32 0) [(eI .u32 1)]))) (sv (d_load rfl (ldP rfl (partN (ds := (ar32 (eI .u8) (List.replicate 32 0) [(eI .u32 1)])) ti39 rfl zl rfl)))) <| wS (v := (.agg [(eI .i64 5), (.row (some true) 1 [])])) (sv (d_build rfl (bldS ti29 pl29 rfl))) <| wS (v := (.agg (ar32 (eI .u8) (List.replicate 32 0) [(eI .u32 1), (eI .i64 5), (.row (some true) 1 []), (eI .i64 0), (eB false)]))) (sv (d_build rfl (bldS ti45 pl45 rfl))) ?_
  refine wS (v := (.agg (ar32 (eI .u8) (List.replicate 32 0) [(eI .u32 2)]))) (sv (d_load rfl (ldP rfl (partN (ds := (ar32 (eI .u8) (List.replicate 32 0) [(eI .u32 2)])) ti39 rfl zl rfl)))) <| wS (v := (.agg [(eI .i64 7), (.row (some true) 1 [])])) (sv (d_build rfl (bldS ti29 pl29 rfl))) <| wS (v := (.agg (ar32 (eI .u8) (List.replicate 32 0) [(eI .u32 2), (eI .i64 7), (.row (some true) 1 []), (eI .i64 0), (eB false)]))) (sv (d_build rfl (bldS ti45 pl45 rfl))) ?_
  refine OpsW.ghost (Ghost.weak (fr' := [(0, (eB false)), (1, (.ptr 0 0)), (2, (.ptr 1 0)), (3, (.ptr 4 0)), (9, (.agg (ar32 (eI .u8) (List.replicate 32 0) [(eI .u32 1)]))), (10, (.agg (ar32 (eI .u8) (List.replicate 32 0) [(eI .u32 2)]))), (11, (.agg (ar32 (eI .u8) (List.replicate 32 0) [(eI .u32 1)]))), (12, (.agg (ar32 (eI .u8) (List.replicate 32 0) [(eI .u32 1), (eI .u32 0), (.row none 1 ([].map (eL 1 (eI .u8))))]))), (13, (.agg (ar32 (eI .u8) (List.replicate 32 0) [(eI .u32 2)]))), (14, (.agg (ar32 (eI .u8) (List.replicate 32 0) [(eI .u32 2), (eI .u32 0), (.row none 1 ([].map (eL 1 (eI .u8))))]))), (15, (.sl 2 0 2 35 true)), (16, (.agg [(eI .i64 10), (.row none 1 ([].map (eI .u8)))])), (17, (.sl 3 0 1 2 true)), (18, (.agg [(eI .u32 0), (.sl 2 0 2 35 true), (.sl 3 0 1 2 true), (eI .u32 0)])), (19, (.agg (ar32 (eI .u8) (List.replicate 32 0) [(eI .u32 1)]))), (20, (.agg [(eI .i64 5), (.row (some true) 1 [])])), (21, (.agg (ar32 (eI .u8) (List.replicate 32 0) [(eI .u32 1), (eI .i64 5), (.row none 1 ([].map (eI .u8))), (eI .i64 0), (eB false)]))), (22, (.agg (ar32 (eI .u8) (List.replicate 32 0) [(eI .u32 2)]))), (23, (.agg [(eI .i64 7), (.row (some true) 1 [])])), (24, (.agg (ar32 (eI .u8) (List.replicate 32 0) [(eI .u32 2), (eI .i64 7), (.row (some true) 1 []), (eI .i64 0), (eB false)])))]) (FLe.same rfl (FLe.same rfl (FLe.same rfl (FLe.same rfl (FLe.same rfl (FLe.same rfl (FLe.same rfl (FLe.same rfl (FLe.same rfl (FLe.same rfl (FLe.same rfl (FLe.same rfl (FLe.same rfl (FLe.same rfl (FLe.same rfl (FLe.same rfl (FLe.le rfl (V.le_agg (les_ar32 (V.les_cons (V.le_refl _ _) (V.les_cons (V.le_refl _ _) (V.les_cons V.le_nil (V.les_cons (V.le_refl _ _) (V.les_cons (V.le_refl _ _) V.les_nil))))))) (FLe.same rfl (FLe.same rfl (FLe.same rfl FLe.nil))))))))))))))))))))) ?_
  refine OpsW.ghost (Ghost.weak (fr' := [(0, (eB false)), (1, (.ptr 0 0)), (2, (.ptr 1 0)), (3, (.ptr 4 0)), (9, (.agg (ar32 (eI .u8) (List.replicate 32 0) [(eI .u32 1)]))), (10, (.agg (ar32 (eI .u8) (List.replicate 32 0) [(eI .u32 2)]))), (11, (.agg (ar32 (eI .u8) (List.replicate 32 0) [(eI .u32 1)]))), (12, (.agg (ar32 (eI .u8) (List.replicate 32 0) [(eI .u32 1), (eI .u32 0), (.row none 1 ([].map (eL 1 (eI .u8))))]))), (13, (.agg (ar32 (eI .u8) (List.replicate 32 0) [(eI .u32 2)]))), (14, (.agg (ar32 (eI .u8) (List.replicate 32 0) [(eI .u32 2), (eI .u32 0), (.row none 1 ([].map (eL 1 (eI .u8))))]))), (15, (.sl 2 0 2 35 true)), (16, (.agg [(eI .i64 10), (.row none 1 ([].map (eI .u8)))])), (17, (.sl 3 0 1 2 true)), (18, (.agg [(eI .u32 0), (.sl 2 0 2 35 true), (.sl 3 0 1 2 true), (eI .u32 0)])), (19, (.agg (ar32 (eI .u8) (List.replicate 32 0) [(eI .u32 1)]))), (20, (.agg [(eI .i64 5), (.row (some true) 1 [])])), (21, (.agg (ar32 (eI .u8) (List.replicate 32 0) [(eI .u32 1), (eI .i64 5), (.row none 1 ([].map (eI .u8))), (eI .i64 0), (eB false)]))), (22, (.agg (ar32 (eI .u8) (List.replicate 32 0) [(eI .u32 2)]))), (23, (.agg [(eI .i64 7), (.row (some true) 1 [])])), (24, (.agg (ar32 (eI .u8) (List.replicate 32 0) [(eI .u32 2), (eI .i64 7), (.row none 1 ([].map (eI .u8))), (eI .i64 0), (eB false)])))]) (FLe.same rfl (FLe.same rfl (FLe.same rfl (FLe.same rfl (FLe.same rfl (FLe.same rfl (FLe.same rfl (FLe.same rfl (FLe.same rfl (FLe.same rfl (FLe.same rfl (FLe.same rfl (FLe.same rfl (FLe.same rfl (FLe.same rfl (FLe.same rfl (FLe.same rfl (FLe.same rfl (FLe.same rfl (FLe.le rfl (V.le_agg (les_ar32 (V.les_cons (V.le_refl _ _) (V.les_cons (V.le_refl _ _) (V.les_cons V.le_nil (V.les_cons (V.le_refl _ _) (V.les_cons (V.le_refl _ _) V.les_nil))))))) FLe.nil))))))))))))))))))))) ?_
  refine wS (v := (.sl 5 0 2 37 true)) (h' := [some ⟨39, (ar32 (eI .u8) (List.replicate 32 0) [(eI .u32 1)])⟩, some ⟨39, (ar32 (eI .u8) (List.replicate 32 0) [(eI .u32 2)])⟩, some ⟨42, [(S_api_Input.mk (S_api_OutPoint.mk (List.replicate 32 0) 1) 0 []), (S_api_Input.mk (S_api_OutPoint.mk (List.replicate 32 0) 2) 0 [])].flatMap C_api_Input⟩, some ⟨29, [(S_api_Output.mk 10 [])].flatMap C_api_Output⟩, some ⟨26, [(eI .u32 0), (.sl 2 0 2 35 true), (.sl 3 0 1 2 true), (eI .u32 0)]⟩, some ⟨45, [(S_api_Coin.mk (S_api_OutPoint.mk (List.replicate 32 0) 1) (S_api_Output.mk 5 []) 0 false), (S_api_Coin.mk (S_api_OutPoint.mk (List.replicate 32 0) 2) (S_api_Output.mk 7 []) 0 false)].flatMap C_api_Coin⟩]) (sv (d_buildS rfl (bldLK (C := C_api_Coin) (xs := [(S_api_Coin.mk (S_api_OutPoint.mk (List.replicate 32 0) 1) (S_api_Output.mk 5 []) 0 false), (S_api_Coin.mk (S_api_OutPoint.mk (List.replicate 32 0) 2) (S_api_Output.mk 7 []) 0 false)]) (K := 37) (fun _ => rfl) (fun _ => rfl) ti46 ti45 ⟨zl, zl, zl⟩ rfl rfl rfl rfl rfl rfl))) ?_
  refine za rfl <| zn <| AB.seq ?_
  replace hr := bnd hr; obtain ⟨x29, h_1, hr⟩ := hr
  refine AB.rw <| wS (v := (.agg [(eI .u32 0), (.sl 2 0 2 35 true), (.sl 3 0 1 2 true), (eI .u32 0)])) (sv (d_load rfl (ldP rfl (partN (ds := [(eI .u32 0), (.sl 2 0 2 35 true), (.sl 3 0 1 2 true), (eI .u32 0)]) ti26 rfl zl rfl)))) <| zm rfl ?_
  refine wC (v := (.tup [(eI .i64 x29.1), (eI .i64 x29.2)])) (h' := [some ⟨39, (ar32 (eI .u8) (List.replicate 32 0) [(eI .u32 1)])⟩, some ⟨39, (ar32 (eI .u8) (List.replicate 32 0) [(eI .u32 2)])⟩, some ⟨42, [(S_api_Input.mk (S_api_OutPoint.mk (List.replicate 32 0) 1) 0 []), (S_api_Input.mk (S_api_OutPoint.mk (List.replicate 32 0) 2) 0 [])].flatMap C_api_Input⟩, some ⟨29, [(S_api_Output.mk 10 [])].flatMap C_api_Output⟩, some ⟨26, [(eI .u32 0), (.sl 2 0 2 35 true), (.sl 3 0 1 2 true), (eI .u32 0)]⟩, some ⟨45, [(S_api_Coin.mk (S_api_OutPoint.mk (List.replicate 32 0) 1) (S_api_Output.mk 5 []) 0 false), (S_api_Coin.mk (S_api_OutPoint.mk (List.replicate 32 0) 2) (S_api_Output.mk 7 []) 0 false)].flatMap C_api_Coin⟩]) rfl (Vm.Fn.lendR (spend_Fee_ok N 0 [(S_api_Input.mk (S_api_OutPoint.mk (List.replicate 32 0) 1) 0 []), (S_api_Input.mk (S_api_OutPoint.mk (List.replicate 32 0) 2) 0 [])] [(S_api_Output.mk 10 [])] 0 [(S_api_Coin.mk (S_api_OutPoint.mk (List.replicate 32 0) 1) (S_api_Output.mk 5 []) 0 false), (S_api_Coin.mk (S_api_OutPoint.mk (List.replicate 32 0) 2) (S_api_Output.mk 7 []) 0 false)] x29 h_1) [] [2, 3, 5] (by decide) rfl (by decide) Lend.nil (Brw.row (exp_agg (exp_cons rfl (exp_cons (exp_slK (d := 3) (C := C_api_Input) (fun _ => rfl) zl rfl rfl (fun _ => rfl)) (exp_cons (exp_slK (d := 3) (C := C_api_Output) (fun _ => rfl) zl rfl rfl (fun _ => rfl)) (exp_cons rfl exp_nil))))) (Brw.row (exp_slKT (C := C_api_Coin) (fun _ => rfl) zl rfl rfl (fun _ => rfl)) Brw.nil)) rfl rfB.nil rfl zH) ?_
  refine zm rfl <| wS (v := (eI .i64 x29.1)) (sv (d_ext rfl rfl)) <| wS (v := (eI .i64 x29.2)) (sv (d_ext rfl rfl)) <| za rfl <| za rfl <| zn <| AB.seq ?_
  replace hr := bnd hr; obtain ⟨x34, h_2, hr⟩ := hr
  refine AB.rw <| wS (v := (.ptr 4 2)) (sv (d_fa rfl (fap26_2 ..))) <| wS (v := (.sl 3 0 1 2 true)) (sv (d_load rfl (ldP rfl (part1 ti24 rfl rfl)))) <| wS (v := (.ptr 3 (0 + Int.toNat 0 * 2))) (sv (d_ia rfl rfl (iaSK (K := 2) rfl ti24 ti29 rfl h_2))) <| wS (v := (.ptr 3 (0 + Int.toNat 0 * 2 + 0))) (sv (d_fa rfl (fap29_0 ..))) ?_
  refine wN (h' := [some ⟨39, (ar32 (eI .u8) (List.replicate 32 0) [(eI .u32 1)])⟩, some ⟨39, (ar32 (eI .u8) (List.replicate 32 0) [(eI .u32 2)])⟩, some ⟨42, [(S_api_Input.mk (S_api_OutPoint.mk (List.replicate 32 0) 1) 0 []), (S_api_Input.mk (S_api_OutPoint.mk (List.replicate 32 0) 2) 0 [])].flatMap C_api_Input⟩, some ⟨29, ([(S_api_Output.mk 10 [])].set (Int.toNat 0) (S_api_Output.mk 13 x34.Script)).flatMap C_api_Output⟩, some ⟨26, [(eI .u32 0), (.sl 2 0 2 35 true), (.sl 3 0 1 2 true), (eI .u32 0)]⟩, some ⟨45, [(S_api_Coin.mk (S_api_OutPoint.mk (List.replicate 32 0) 1) (S_api_Output.mk 5 []) 0 false), (S_api_Coin.mk (S_api_OutPoint.mk (List.replicate 32 0) 2) (S_api_Output.mk 7 []) 0 false)].flatMap C_api_Coin⟩]) (sv (d_store rfl rfl (stXK (C := C_api_Output) (K := 2) (off := 0) (fun _ => rfl) ti2 rfl h_2 rfl rfl zl rfl rfl))) ?_
  refine zn <| AB.seq ?_
  replace hr := bnd hr; obtain ⟨x39, h_3, hr⟩ := hr
  refine AB.rw <| wS (v := (.agg [(eI .u32 0), (.sl 2 0 2 35 true), (.sl 3 0 1 2 true), (eI .u32 0)])) (sv (d_load rfl (ldP rfl (partN (ds := [(eI .u32 0), (.sl 2 0 2 35 true), (.sl 3 0 1 2 true), (eI .u32 0)]) ti26 rfl zl rfl)))) <| zm rfl ?_
  refine wC (v := (.tup [(eI .i64 x39.1), (eI .i64 x39.2)])) (h' := [some ⟨39, (ar32 (eI .u8) (List.replicate 32 0) [(eI .u32 1)])⟩, some ⟨39, (ar32 (eI .u8) (List.replicate 32 0) [(eI .u32 2)])⟩, some ⟨42, [(S_api_Input.mk (S_api_OutPoint.mk (List.replicate 32 0) 1) 0 []), (S_api_Input.mk (S_api_OutPoint.mk (List.replicate 32 0) 2) 0 [])].flatMap C_api_Input⟩, some ⟨29, ([(S_api_Output.mk 10 [])].set (Int.toNat 0) (S_api_Output.mk 13 x34.Script)).flatMap C_api_Output⟩, some ⟨26, [(eI .u32 0), (.sl 2 0 2 35 true), (.sl 3 0 1 2 true), (eI .u32 0)]⟩, some ⟨45, [(S_api_Coin.mk (S_api_OutPoint.mk (List.replicate 32 0) 1) (S_api_Output.mk 5 []) 0 false), (S_api_Coin.mk (S_api_OutPoint.mk (List.replicate 32 0) 2) (S_api_Output.mk 7 []) 0 false)].flatMap C_api_Coin⟩]) rfl (Vm.Fn.lendR (spend_Fee_ok N 0 [(S_api_Input.mk (S_api_OutPoint.mk (List.replicate 32 0) 1) 0 []), (S_api_Input.mk (S_api_OutPoint.mk (List.replicate 32 0) 2) 0 [])] ([(S_api_Output.mk 10 [])].set (Int.toNat 0) (S_api_Output.mk 13 x34.Script)) 0 [(S_api_Coin.mk (S_api_OutPoint.mk (List.replicate 32 0) 1) (S_api_Output.mk 5 []) 0 false), (S_api_Coin.mk (S_api_OutPoint.mk (List.replicate 32 0) 2) (S_api_Output.mk 7 []) 0 false)] x39 h_3) [] [2, 3, 5] (by decide) rfl (by decide) Lend.nil (Brw.row (exp_agg (exp_cons rfl (exp_cons (exp_slK (d := 3) (C := C_api_Input) (fun _ => rfl) zl rfl rfl (fun _ => rfl)) (exp_cons (exp_slK (d := 3) (C := C_api_Output) (fun _ => rfl) zl rfl rfl (fun _ => rfl)) (exp_cons rfl exp_nil))))) (Brw.row (exp_slKT (C := C_api_Coin) (fun _ => rfl) zl rfl rfl (fun _ => rfl)) Brw.nil)) rfl rfB.nil rfl zH) ?_
  refine zm rfl <| wS (v := (eI .i64 x39.1)) (sv (d_ext rfl rfl)) <| wS (v := (eI .i64 x39.2)) (sv (d_ext rfl rfl)) <| za rfl <| za rfl <| zn ?_
  refine AB.seq_g fun K1 hK1 hG1 => ?_
  have J1 : ∀ (x0 : Bool), law10_sane_J1 N x0 = some r → K1 (mkF 52 [(0, (eB x0))]) [] := by
    intro x0 hr
    unfold law10_sane_J1 at hr
    refine hK1 _ _ <| AB.ret ?_
    obtain rfl := Option.some.inj hr
    exact done_ret (r1 := (eB x0)) (res1 Tryd.results5 (rvT rfl)) (zG [])
  rcases Bool.eq_false_or_eq_true (x29.2 == 0) with h4 | h4
  · replace hr := iteT hr h4
    rcases Bool.eq_false_or_eq_true (x29.1 == 2) with h5 | h5
    · replace hr := iteT hr h5
      refine AB.rw <| zm rfl <| wS (v := (eB (x29.2 == 0))) (sv (d_bin rfl rfl (bin_eql ..))) <| zm rfl <| wS (svG rfl rfl h4 (d_move rfl)) <| wS (v := (eB (x29.1 == 2))) (svG rfl rfl h4 (d_bin rfl rfl (bin_eql ..))) <| wS (v := (eB (x29.1 == 2))) (sv (d_pickT rfl h4 rfl)) <| zm rfl <| wS (svG rfl rfl h5 (d_move rfl)) <| wS (v := (eB (x39.2 == 100))) (svG rfl rfl h5 (d_bin rfl rfl (bin_eql ..))) <| wS (v := (eB (x39.2 == 100))) (sv (d_pickT rfl h5 rfl)) <| za rfl <| zn ?_
      exact hG1 _ _ _ _ (zG []) (J1 (x39.2 == 100) hr)
    · replace hr := iteF hr h5
      refine AB.rw <| zm rfl <| wS (v := (eB (x29.2 == 0))) (sv (d_bin rfl rfl (bin_eql ..))) <| zm rfl <| wS (svG rfl rfl h4 (d_move rfl)) <| wS (v := (eB (x29.1 == 2))) (svG rfl rfl h4 (d_bin rfl rfl (bin_eql ..))) <| wS (v := (eB (x29.1 == 2))) (sv (d_pickT rfl h4 rfl)) <| zm rfl <| wS (svX rfl rfl h5) <| wS (svX rfl rfl h5) <| wS (v := (eB false)) (sv (d_pickF rfl h5 rfl)) <| za rfl <| zn ?_
      exact hG1 _ _ _ _ (zG []) (J1 false hr)
  · replace hr := iteF hr h4
    refine AB.rw <| zm rfl <| wS (v := (eB (x29.2 == 0))) (sv (d_bin rfl rfl (bin_eql ..))) <| zm rfl <| wS (svX rfl rfl h4) <| wS (svX rfl rfl h4) <| wS (v := (eB false)) (sv (d_pickF rfl h4 rfl)) <| zm rfl <| wS (svX rfl rfl rfl) <| wS (svX rfl rfl rfl) <| wS (v := (eB false)) (sv (d_pickF rfl rfl rfl)) <| za rfl <| zn ?_
    exact hG1 _ _ _ _ (zG []) (J1 false hr)
set_option maxRecDepth 20000 in
set_option maxHeartbeats 1000000 in
theorem keep_Items_ok (N : Nat) (l : List (List Int)) (vn : Int) (vm : Int) (r : Bool) (hr : keep_Items N l vn vm = some r) :
    Vm.Fn Tryd.prog 10 [] [(.row none 1 (l.map (eL 1 (eI .u8)))), (eI .i64 vn), (eI .i64 vm)] (eB r) [] := by
  refine fn_ab Tryd.func10 rfl (by kernel_rfl) Tryd.ntmps10 zl rfl (fr := [(0, (.row none 1 (l.map (eL 1 (eI .u8))))), (1, (eI .i64 vn)), (2, (eI .i64 vm))]) rfl ?_
  unfold keep_Items at hr
  refine zq <| wS (v := (eB false)) (sv (d_assign rfl)) <| zn <| AB.seq <| zq <| zm rfl <| wS (v := (eI .i64 (l.length : Int))) (sv (d_len rfl (lenR ti40))) <| zm rfl <| wS (sv (d_bin rfl rfl (bin_gtr ..))) <| zn ?_
  refine AB.cnd rfl (fun h1 => ?_) (fun h1 => ?_)
  · replace hr := iteT hr h1
    refine zq <| wS (v := (eB false)) (sv (d_assign rfl)) <| zn <| AB.ret <| Ex.then_ret_mk ?_
    obtain rfl := Option.some.inj hr
    exact done_ret (r1 := (eB false)) (res1 Tryd.results10 (rvT rfl)) (zG [])
  · replace hr := iteF hr h1
    refine AB.skip <| Ex.then_mk ?_
    refine AB.seq_g fun K1 hK1 hG1 => ?_
    have J1 : keep_Items_J1 N = some r → K1 (mkF 24 []) [] := by
      intro hr
      unfold keep_Items_J1 at hr
      refine hK1 _ _ <| zq <| wS (v := (eB true)) (sv (d_assign rfl)) <| zn <| AB.ret ?_
      obtain rfl := Option.some.inj hr
      exact done_ret (r1 := (eB true)) (res1 Tryd.results10 (rvT rfl)) (zG [])
    refine zq <| zm rfl <| wS (v := (eI .i64 (l.length : Int))) (sv (d_len rfl (lenR ti40))) <| wS (v := (eI .i64 0)) (sv (d_move rfl)) <| zn ?_
    replace hr := bnd hr; obtain ⟨res2, hL2, hr⟩ := hr
    refine AB.block <| AB.loopN (fun m s h => ∃ (x15 : Int), keep_Items_L2 N l vm m x15 = some res2 ∧ Ghost 0 s h (mkF 24 [(2, (eI .i64 vm)), (13, (.row none 1 (l.map (eL 1 (eI .u8))))), (14, (eI .i64 (l.length : Int))), (15, (eI .i64 x15))]) []) (n := N) ⟨0, hL2, (zG [])⟩ (by rintro s h ⟨_, h0, _⟩; simp [keep_Items_L2] at h0) ?_
    rintro m2 s h ⟨x15, hr2, hg⟩
    refine AB.ghost hg ?_
    clear hg hL2
    rw [keep_Items_L2] at hr2
    refine zq <| wS (sv (d_bin rfl rfl (bin_lss ..))) <| zn <| AB.seq ?_
    refine AB.cnd rfl (fun h2 => ?_) (fun h2 => ?_)
    · replace hr2 := iteT hr2 h2
      refine AB.skip <| Ex.then_mk <| AB.seq <| AB.block <| AB.seq ?_
      replace hr2 := bnd hr2; obtain ⟨x17, h_3, hr2⟩ := hr2
      refine AB.rw <| wS (sv (d_ia rfl rfl (iaR ti40 ti27 h_3))) <| wS (v := (.row none 1 (x17.map (eI .u8)))) (sv (d_load rfl (ldR h_3 (part1 ti27 rfl rfl)))) <| za rfl <| zn <| zq <| zm rfl <| wS (v := (eI .i64 (x17.length : Int))) (sv (d_len rfl (lenR ti27))) <| zm rfl <| wS (sv (d_bin rfl rfl (bin_gtr ..))) <| zn ?_
      refine AB.cnd rfl (fun h4 => ?_) (fun h4 => ?_)
      · replace hr2 := iteT hr2 h4
        refine zq <| wS (v := (eB false)) (sv (d_assign rfl)) <| zn <| AB.ret <| Ex.inBlock_ret_mk <| Ex.then_ret_mk <| Ex.then_ret_mk <| Ex.inBlock_ret_mk <| Ex.then_ret_mk ?_
        obtain rfl := Option.some.inj hr2
        obtain rfl := Option.some.inj hr
        exact done_ret (r1 := (eB false)) (res1 Tryd.results10 (rvT rfl)) (zG [])
      · replace hr2 := iteF hr2 h4
        refine AB.skip <| Ex.inBlock_mk <| Ex.then_mk <| AB.rw <| wS (v := (eI .i64 (IntKind.i64.wrap (x15 + 1)))) (sv (d_bin rfl rfl (bin_add ..))) <| zm rfl <| zn ?_
        exact ⟨IntKind.i64.wrap (x15 + 1), hr2, (zG [])⟩
    · replace hr2 := iteF hr2 h2
      refine AB.exit <| Ex.then_exit_mk <| Ex.then_exit_mk <| Ex.inBlock_same_mk ?_
      obtain rfl := Option.some.inj hr2
      refine Ex.then_mk ?_
      exact hG1 _ _ _ _ (zG []) (J1 hr)
set_option maxRecDepth 20000 in
set_option maxHeartbeats 1000000 in
theorem keep_Tx_ok (N : Nat) (t_Version : Int) (t_Inputs : List S_api_Input) (t_Outputs : List S_api_Output) (t_Lock : Int) (r : Bool) (hr : keep_Tx N t_Version t_Inputs t_Outputs t_Lock = some r) :
    Vm.Fn Tryd.prog 6 [] [(.agg [(eI .u32 t_Version), (.row none 35 (t_Inputs.map E_api_Input)), (.row none 2 (t_Outputs.map E_api_Output)), (eI .u32 t_Lock)])] (eB r) [] := by
  refine fn_ab Tryd.func6 rfl (by kernel_rfl) Tryd.ntmps6 zl rfl (fr := [(0, (.agg [(eI .u32 t_Version), (.row none 35 (t_Inputs.map E_api_Input)), (.row none 2 (t_Outputs.map E_api_Output)), (eI .u32 t_Lock)]))]) rfl ?_
  unfold keep_Tx at hr
  refine zq <| wS (v := (.ptr 0 0)) (h' := [some ⟨26, [(eI .u32 t_Version), (.row none 35 (t_Inputs.map E_api_Input)), (.row none 2 (t_Outputs.map E_api_Output)), (eI .u32 t_Lock)]⟩]) (sv (d_box rfl rfl rfl rfl)) <| wS (v := (eB false)) (sv (d_assign rfl)) <| zn <| AB.seq ?_
  refine AB.seq_g fun K1 hK1 hG1 => ?_
  have J1 : ∀ (x16 : Bool), keep_Tx_J1 N t_Version t_Inputs t_Outputs t_Lock x16 = some r → K1 (mkF 41 [(1, (.ptr 0 0)), (16, (eB x16))]) [some ⟨26, [(eI .u32 t_Version), (.row none 35 (t_Inputs.map E_api_Input)), (.row none 2 (t_Outputs.map E_api_Output)), (eI .u32 t_Lock)]⟩] := by
    intro x16 hr
    unfold keep_Tx_J1 at hr
    refine hK1 _ _ ?_
    refine AB.cnd rfl (fun h1 => ?_) (fun h1 => ?_)
    · replace hr := iteT hr h1
      refine zq <| wS (v := (eB false)) (sv (d_assign rfl)) <| zn <| AB.ret <| Ex.then_ret_mk ?_
      obtain rfl := Option.some.inj hr
      exact done_ret (r1 := (eB false)) (res1 Tryd.results6 (rvT rfl)) (zG [])
    · replace hr := iteF hr h1
      refine AB.skip <| Ex.then_mk ?_
      refine AB.seq_g fun K2 hK2 hG2 => ?_
      have J2 : keep_Tx_J2 N t_Version t_Inputs t_Outputs t_Lock = some r → K2 (mkF 41 [(1, (.ptr 0 0))]) [some ⟨26, [(eI .u32 t_Version), (.row none 35 (t_Inputs.map E_api_Input)), (.row none 2 (t_Outputs.map E_api_Output)), (eI .u32 t_Lock)]⟩] := by
        intro hr
        unfold keep_Tx_J2 at hr
        refine hK2 _ _ ?_
        refine AB.seq_g fun K3 hK3 hG3 => ?_
        have J3 : keep_Tx_J3 N = some r → K3 (mkF 41 []) [] := by
          intro hr
          unfold keep_Tx_J3 at hr
          refine hK3 _ _ <| zq <| wS (v := (eB true)) (sv (d_assign rfl)) <| zn <| AB.ret ?_
          obtain rfl := Option.some.inj hr
          exact done_ret (r1 := (eB true)) (res1 Tryd.results6 (rvT rfl)) (zG [])
        refine zq <| wS (v := (.ptr 0 2)) (sv (d_fa rfl (fap26_2 ..))) <| wS (v := (.row none 2 (t_Outputs.map E_api_Output))) (sv (d_load rfl (ldP rfl (part1 ti24 rfl rfl)))) <| wS (v := (eI .i64 (t_Outputs.length : Int))) (sv (d_len rfl (lenR ti24))) <| wS (v := (eI .i64 0)) (sv (d_move rfl)) <| zn ?_
        replace hr := bnd hr; obtain ⟨res4, hL4, hr⟩ := hr
        refine AB.block <| AB.loopN (fun m s h => ∃ (x32 : Int), keep_Tx_L4 N t_Outputs m x32 = some res4 ∧ Ghost 0 s h (mkF 41 [(30, (.row none 2 (t_Outputs.map E_api_Output))), (31, (eI .i64 (t_Outputs.length : Int))), (32, (eI .i64 x32))]) []) (n := N) ⟨0, hL4, (zG [])⟩ (by rintro s h ⟨_, h0, _⟩; simp [keep_Tx_L4] at h0) ?_
        rintro m4 s h ⟨x32, hr4, hg⟩
        refine AB.ghost hg ?_
        clear hg hL4
        rw [keep_Tx_L4] at hr4
        refine zq <| wS (sv (d_bin rfl rfl (bin_lss ..))) <| zn <| AB.seq ?_
        refine AB.cnd rfl (fun h2 => ?_) (fun h2 => ?_)
        · replace hr4 := iteT hr4 h2
          refine AB.skip <| Ex.then_mk <| AB.seq <| AB.block <| AB.seq ?_
          replace hr4 := bnd hr4; obtain ⟨x34, h_3, hr4⟩ := hr4
          refine AB.rw <| wS (sv (d_ia rfl rfl (iaR ti24 ti29 h_3))) <| wS (v := (.agg [(eI .i64 x34.Value), (.row none 1 (x34.Script.map (eI .u8)))])) (sv (d_load rfl (ldR h_3 (partN (ds := [(eI .i64 x34.Value), (.row none 1 (x34.Script.map (eI .u8)))]) ti29 rfl zl rfl)))) <| wS (v := (.ptr 0 0)) (h' := [some ⟨29, [(eI .i64 0), (.row (some true) 1 [])]⟩]) (sv (d_alloc ti29 rfl rfl rfl)) <| wN (h' := [some ⟨29, [(eI .i64 x34.Value), (.row none 1 (x34.Script.map (eI .u8)))]⟩]) (sv (d_store rfl rfl (stP ti29 rfl rfl rfl zl rfl))) <| zn <| zq <| wS (v := (.ptr 0 1)) (sv (d_fa rfl (fap29_1 ..))) ?_
          refine wS (v := (.row none 1 (x34.Script.map (eI .u8)))) (sv (d_load rfl (ldP rfl (part1 ti27 rfl rfl)))) <| wS (v := (eI .i64 (x34.Script.length : Int))) (sv (d_len rfl (lenR ti27))) <| wS (v := (eB (decide (600 < (x34.Script.length : Int))))) (sv (d_bin rfl rfl (bin_gtr ..))) <| zn ?_
          refine AB.cnd rfl (fun h4 => ?_) (fun h4 => ?_)
          · replace hr4 := iteT hr4 h4
            refine zq <| wS (v := (eB false)) (sv (d_assign rfl)) <| zn <| AB.ret <| Ex.inBlock_ret_mk <| Ex.then_ret_mk <| Ex.then_ret_mk <| Ex.inBlock_ret_mk <| Ex.then_ret_mk ?_
            obtain rfl := Option.some.inj hr4
            obtain rfl := Option.some.inj hr
            exact done_ret (r1 := (eB false)) (res1 Tryd.results6 (rvT rfl)) (zG [])
          · replace hr4 := iteF hr4 h4
            refine AB.skip <| Ex.inBlock_mk <| Ex.then_mk <| AB.rw <| wS (v := (eI .i64 (IntKind.i64.wrap (x32 + 1)))) (sv (d_bin rfl rfl (bin_add ..))) <| zm rfl <| zn ?_
            exact ⟨IntKind.i64.wrap (x32 + 1), hr4, (zG [])⟩
        · replace hr4 := iteF hr4 h2
          refine AB.exit <| Ex.then_exit_mk <| Ex.then_exit_mk <| Ex.inBlock_same_mk ?_
          obtain rfl := Option.some.inj hr4
          refine Ex.then_mk ?_
          exact hG3 _ _ _ _ (zG []) (J3 hr)
      refine zq <| wS (v := (.ptr 0 1)) (sv (d_fa rfl (fap26_1 ..))) <| wS (v := (.row none 35 (t_Inputs.map E_api_Input))) (sv (d_load rfl (ldP rfl (part1 ti23 rfl rfl)))) <| wS (v := (eI .i64 (t_Inputs.length : Int))) (sv (d_len rfl (lenR ti23))) <| wS (v := (eI .i64 0)) (sv (d_move rfl)) <| zn ?_
      replace hr := bnd hr; obtain ⟨res5, hL5, hr⟩ := hr
      refine AB.block <| AB.loopN (fun m s h => ∃ (x20 : Int), keep_Tx_L5 N t_Version t_Inputs t_Outputs t_Lock m x20 = some res5 ∧ Ghost 0 s h (mkF 41 [(1, (.ptr 0 0)), (18, (.row none 35 (t_Inputs.map E_api_Input))), (19, (eI .i64 (t_Inputs.length : Int))), (20, (eI .i64 x20))]) [some ⟨26, [(eI .u32 t_Version), (.row none 35 (t_Inputs.map E_api_Input)), (.row none 2 (t_Outputs.map E_api_Output)), (eI .u32 t_Lock)]⟩]) (n := N) ⟨0, hL5, (zG [0])⟩ (by rintro s h ⟨_, h0, _⟩; simp [keep_Tx_L5] at h0) ?_
      rintro m5 s h ⟨x20, hr5, hg⟩
      refine AB.ghost hg ?_
      clear hg hL5
      rw [keep_Tx_L5] at hr5
      refine zq <| wS (sv (d_bin rfl rfl (bin_lss ..))) <| zn <| AB.seq ?_
      refine AB.cnd rfl (fun h5 => ?_) (fun h5 => ?_)
      · replace hr5 := iteT hr5 h5
        refine AB.skip <| Ex.then_mk <| AB.seq <| AB.block <| AB.seq ?_
        replace hr5 := bnd hr5; obtain ⟨x22, h_6, hr5⟩ := hr5
        refine AB.rw <| wS (sv (d_ia rfl rfl (iaR ti23 ti42 h_6))) <| wS (v := (E_api_Input x22)) (sv (d_load rfl (ldR h_6 (partN (ds := (ar32 (eI .u8) x22.Prev.Tx [(eI .u32 x22.Prev.Index), (eI .u32 x22.Sequence), (.row none 1 (x22.Witness.map (eL 1 (eI .u8))))])) ti42 rfl zl rfl)))) <| wS (v := (.ptr 1 0)) (h' := [some ⟨26, [(eI .u32 t_Version), (.row none 35 (t_Inputs.map E_api_Input)), (.row none 2 (t_Outputs.map E_api_Output)), (eI .u32 t_Lock)]⟩, some ⟨42, (ar32 (eI .u8) (List.replicate 32 0) [(eI .u32 0), (eI .u32 0), (.row (some true) 1 [])])⟩]) (sv (d_alloc ti42 rfl rfl rfl)) ?_
        refine wN (h' := [some ⟨26, [(eI .u32 t_Version), (.row none 35 (t_Inputs.map E_api_Input)), (.row none 2 (t_Outputs.map E_api_Output)), (eI .u32 t_Lock)]⟩, some ⟨42, C_api_Input x22⟩]) (sv (d_store rfl rfl (stP ti42 rfl rfl rfl zl rfl))) <| zn <| AB.seq ?_
        replace hr5 := bnd hr5; obtain ⟨x26, h_7, hr5⟩ := hr5
        refine AB.rw <| wS (v := (.ptr 1 34)) (sv (d_fa rfl (fap42_2 ..))) <| wS (v := (.row none 1 (x22.Witness.map (eL 1 (eI .u8))))) (sv (d_load rfl (ldP rfl (part1 ti40 rfl rfl)))) <| wC rfl (Vm.Fn.pure (keep_Items_ok N x22.Witness 40 600 x26 h_7) rfl rfl) <| wS (sv (d_un rfl (un_not _ _))) <| zn ?_
        refine AB.cnd rfl (fun h8 => ?_) (fun h8 => ?_)
        · replace hr5 := iteT hr5 h8
          refine zq <| wS (v := (eB false)) (sv (d_assign rfl)) <| zn <| AB.ret <| Ex.inBlock_ret_mk <| Ex.then_ret_mk <| Ex.then_ret_mk <| Ex.inBlock_ret_mk <| Ex.then_ret_mk ?_
          obtain rfl := Option.some.inj hr5
          obtain rfl := Option.some.inj hr
          exact done_ret (r1 := (eB false)) (res1 Tryd.results6 (rvT rfl)) (zG [])
        · replace hr5 := iteF hr5 h8
          refine AB.skip <| Ex.inBlock_mk <| Ex.then_mk <| AB.rw <| wS (v := (eI .i64 (IntKind.i64.wrap (x20 + 1)))) (sv (d_bin rfl rfl (bin_add ..))) <| zm rfl <| zn ?_
          exact ⟨IntKind.i64.wrap (x20 + 1), hr5, (zG [0])⟩
      · replace hr5 := iteF hr5 h5
        refine AB.exit <| Ex.then_exit_mk <| Ex.then_exit_mk <| Ex.inBlock_same_mk ?_
        obtain rfl := Option.some.inj hr5
        refine Ex.then_mk ?_
        exact hG2 _ _ _ _ (zG [0]) (J2 hr)
  rcases Bool.eq_false_or_eq_true (decide (70 < (t_Inputs.length : Int))) with h9 | h9
  · replace hr := iteT hr h9
    refine AB.rw <| wS (v := (.ptr 0 1)) (sv (d_fa rfl (fap26_1 ..))) <| wS (v := (.row none 35 (t_Inputs.map E_api_Input))) (sv (d_load rfl (ldP rfl (part1 ti23 rfl rfl)))) <| wS (v := (eI .i64 (t_Inputs.length : Int))) (sv (d_len rfl (lenR ti23))) <| wS (v := (eB (decide (70 < (t_Inputs.length : Int))))) (sv (d_bin rfl rfl (bin_gtr ..))) <| zm rfl <| wS (svX rfl rfl h9) <| wS (svX rfl rfl h9) <| wS (svX rfl rfl h9) <| wS (svX rfl rfl h9) <| wS (v := (eB true)) (sv (d_pickT rfl h9 rfl)) <| zn ?_
    exact hG1 _ _ _ _ (zG [0]) (J1 true hr)
  · replace hr := iteF hr h9
    refine AB.rw <| wS (v := (.ptr 0 1)) (sv (d_fa rfl (fap26_1 ..))) <| wS (v := (.row none 35 (t_Inputs.map E_api_Input))) (sv (d_load rfl (ldP rfl (part1 ti23 rfl rfl)))) <| wS (v := (eI .i64 (t_Inputs.length : Int))) (sv (d_len rfl (lenR ti23))) <| wS (v := (eB (decide (70 < (t_Inputs.length : Int))))) (sv (d_bin rfl rfl (bin_gtr ..))) <| zm rfl <| wS (v := (.ptr 0 2)) (svG rfl rfl h9 (d_fa rfl (fap26_2 ..))) <| wS (v := (.row none 2 (t_Outputs.map E_api_Output))) (svG rfl rfl h9 (d_load rfl (ldP rfl (part1 ti24 rfl rfl)))) ?_
    refine wS (v := (eI .i64 (t_Outputs.length : Int))) (svG rfl rfl h9 (d_len rfl (lenR ti24))) <| wS (v := (eB (decide (70 < (t_Outputs.length : Int))))) (svG rfl rfl h9 (d_bin rfl rfl (bin_gtr ..))) <| wS (v := (eB (decide (70 < (t_Outputs.length : Int))))) (sv (d_pickF rfl h9 rfl)) <| zn ?_
    exact hG1 _ _ _ _ (zG [0]) (J1 (decide (70 < (t_Outputs.length : Int))) hr)
set_option maxRecDepth 20000 in
set_option maxHeartbeats 1000000 in
theorem tx_Encode_ok (N : Nat) (t_Version : Int) (t_Inputs : List S_api_Input) (t_Outputs : List S_api_Output) (t_Lock : Int) (witness : Bool) (r : (List Int) × Int) (hr : tx_Encode N t_Version t_Inputs t_Outputs t_Lock witness = some r) :
    Vm.Fn Tryd.prog 27 [] [(.agg [(eI .u32 t_Version), (.row none 35 (t_Inputs.map E_api_Input)), (.row none 2 (t_Outputs.map E_api_Output)), (eI .u32 t_Lock)]), (eB witness)] (.tup [(.sl 0 0 r.1.length 1 false), (eI .i64 r.2)]) [some ⟨5, r.1.map (eI .u8)⟩] := by
  refine fn_ab Tryd.func27 rfl (by kernel_rfl) Tryd.ntmps27 zl rfl (fr := [(0, (.agg [(eI .u32 t_Version), (.row none 35 (t_Inputs.map E_api_Input)), (.row none 2 (t_Outputs.map E_api_Output)), (eI .u32 t_Lock)])), (1, (eB witness))]) rfl ?_
  unfold tx_Encode at hr
  refine zq <| wS (v := (.ptr 0 0)) (h' := [some ⟨26, [(eI .u32 t_Version), (.row none 35 (t_Inputs.map E_api_Input)), (.row none 2 (t_Outputs.map E_api_Output)), (eI .u32 t_Lock)]⟩]) (sv (d_box rfl rfl rfl rfl)) <| wS (v := (.row (some true) 1 [])) (sv (d_assign rfl)) <| wS (v := (eI .i64 0)) (sv (d_assign rfl)) <| zn <| AB.seq <| AB.seq ?_
  replace hr := bnd hr; obtain ⟨x7, h_1, hr⟩ := hr
  refine AB.rw <| wS (v := (.agg [(eI .u32 t_Version), (.row none 35 (t_Inputs.map E_api_Input)), (.row none 2 (t_Outputs.map E_api_Output)), (eI .u32 t_Lock)])) (sv (d_load rfl (ldP rfl (partN (ds := [(eI .u32 t_Version), (.row none 35 (t_Inputs.map E_api_Input)), (.row none 2 (t_Outputs.map E_api_Output)), (eI .u32 t_Lock)]) ti26 rfl zl rfl)))) <| wC rfl (Vm.Fn.pure (tx_fits_ok N t_Version t_Inputs t_Outputs t_Lock x7 h_1) rfl rfl) <| wS (sv (d_un rfl (un_not _ _))) <| zn ?_
  refine AB.cnd rfl (fun h2 => ?_) (fun h2 => ?_)
  · replace hr := iteT hr h2
    refine zq <| wS (v := (.row (some true) 1 [])) (sv (d_assign rfl)) <| wS (v := (eI .i64 4)) (sv (d_assign rfl)) <| zn <| AB.ret <| Ex.then_ret_mk ?_
    obtain rfl := Option.some.inj hr
    exact done_ret (r1 := (.tup [(.row (some true) 1 []), (eI .i64 4)])) (res2 Tryd.results27 (rvT rfl) (rvT rfl)) (Ghost.trans (Ghost.virt (fr' := [(0, (.tup [(.sl 1 0 0 1 false), (eI .i64 4)]))]) (h1 := [some ⟨26, [(eI .u32 t_Version), (.row none 35 (t_Inputs.map E_api_Input)), (.row none 2 (t_Outputs.map E_api_Output)), (eI .u32 t_Lock)]⟩]) 5 (FLe.le rfl (V.le_tup (V.les_cons (V.le_virt rfl) (V.les_cons (V.le_refl _ _) V.les_nil))) FLe.nil) (HLv.live (V.les_refl _ _) rfl HLv.nil)) (Ghost.rn [1] rfl rfl (FLe.le rfl (V.le_tup (V.les_cons (by first | exact V.le_refl _ _ | (simp only [len_set, len_cpy]; exact V.le_refl _ _)) (V.les_cons (V.le_refl _ _) V.les_nil))) FLe.nil) (HLe.live rfl V.les_nil rfl HLe.nil) rfl))
  · replace hr := iteF hr h2
    refine AB.skip <| Ex.then_mk <| AB.seq ?_
    replace hr := bnd hr; obtain ⟨x11, h_3, hr⟩ := hr
    refine AB.rw <| wS (v := (.agg [(eI .u32 t_Version), (.row none 35 (t_Inputs.map E_api_Input)), (.row none 2 (t_Outputs.map E_api_Output)), (eI .u32 t_Lock)])) (sv (d_load rfl (ldP rfl (partN (ds := [(eI .u32 t_Version), (.row none 35 (t_Inputs.map E_api_Input)), (.row none 2 (t_Outputs.map E_api_Output)), (eI .u32 t_Lock)]) ti26 rfl zl rfl)))) <| zm rfl ?_
    refine wC (v := (.sl 1 0 x11.length 1 false)) (h' := [some ⟨26, [(eI .u32 t_Version), (.row none 35 (t_Inputs.map E_api_Input)), (.row none 2 (t_Outputs.map E_api_Output)), (eI .u32 t_Lock)]⟩, some ⟨5, x11.map (eI .u8)⟩]) rfl (zB (tx_encode_ok N t_Version t_Inputs t_Outputs t_Lock witness x11 h_3) []) <| za rfl <| wS (v := (eI .i64 0)) (sv (d_assign rfl)) <| zn <| AB.ret ?_
    obtain rfl := Option.some.inj hr
    exact done_ret (r1 := (.tup [(.sl 1 0 x11.length 1 false), (eI .i64 0)])) (res2 Tryd.results27 (rvT rfl) (rvT rfl)) (zG [1])
set_option maxRecDepth 20000 in
set_option maxHeartbeats 1000000 in
theorem spend_fits_ok (N : Nat) (t_Version : Int) (t_Inputs : List S_api_Input) (t_Outputs : List S_api_Output) (t_Lock : Int) (r : Bool) (hr : spend_fits N t_Version t_Inputs t_Outputs t_Lock = some r) :
    Vm.Fn Tryd.prog 11 [] [(.agg [(eI .u32 t_Version), (.row none 35 (t_Inputs.map E_api_Input)), (.row none 2 (t_Outputs.map E_api_Output)), (eI .u32 t_Lock)])] (eB r) [] := by
  refine fn_ab Tryd.func11 rfl (by kernel_rfl) Tryd.ntmps11 zl rfl (fr := [(0, (.agg [(eI .u32 t_Version), (.row none 35 (t_Inputs.map E_api_Input)), (.row none 2 (t_Outputs.map E_api_Output)), (eI .u32 t_Lock)]))]) rfl ?_
  unfold spend_fits at hr
  refine zq <| wS (v := (.ptr 0 0)) (h' := [some ⟨26, [(eI .u32 t_Version), (.row none 35 (t_Inputs.map E_api_Input)), (.row none 2 (t_Outputs.map E_api_Output)), (eI .u32 t_Lock)]⟩]) (sv (d_box rfl rfl rfl rfl)) <| wS (v := (eB false)) (sv (d_assign rfl)) <| zn <| AB.seq ?_
  replace hr := bnd hr; obtain ⟨x7, h_1, hr⟩ := hr
  refine AB.rw <| wS (v := (.agg [(eI .u32 t_Version), (.row none 35 (t_Inputs.map E_api_Input)), (.row none 2 (t_Outputs.map E_api_Output)), (eI .u32 t_Lock)])) (sv (d_load rfl (ldP rfl (partN (ds := [(eI .u32 t_Version), (.row none 35 (t_Inputs.map E_api_Input)), (.row none 2 (t_Outputs.map E_api_Output)), (eI .u32 t_Lock)]) ti26 rfl zl rfl)))) ?_
  refine wC (v := (.tup [(.sl 1 0 x7.1.length 1 false), (eI .i64 x7.2)])) (h' := [some ⟨26, [(eI .u32 t_Version), (.row none 35 (t_Inputs.map E_api_Input)), (.row none 2 (t_Outputs.map E_api_Output)), (eI .u32 t_Lock)]⟩, some ⟨5, x7.1.map (eI .u8)⟩]) rfl (zB (tx_Encode_ok N t_Version t_Inputs t_Outputs t_Lock true x7 h_1) []) <| zm rfl <| wS (v := (.sl 1 0 x7.1.length 1 false)) (sv (d_ext rfl rfl)) <| wS (v := (eI .i64 x7.2)) (sv (d_ext rfl rfl)) <| za rfl <| za rfl <| zn <| zq <| zm rfl <| wS (v := (eB (x7.2 == 0))) (sv (d_bin rfl rfl (bin_eql ..))) <| za rfl <| zn <| AB.ret ?_
  obtain rfl := Option.some.inj hr
  exact done_ret (r1 := (eB (x7.2 == 0))) (res1 Tryd.results11 (rvT rfl)) (zG [])
set_option maxRecDepth 20000 in
set_option maxHeartbeats 1000000 in
theorem spend_number_ok (N : Nat) (vn : Int) (r : (List Int)) (hr : spend_number N vn = some r) :
    Vm.Fn Tryd.prog 13 [] [(eI .u32 vn)] (.sl 0 0 r.length 1 false) [some ⟨5, r.map (eI .u8)⟩] := by
  refine fn_ab Tryd.func13 rfl (by kernel_rfl) Tryd.ntmps13 zl rfl (fr := [(0, (eI .u32 vn))]) rfl ?_
  unfold spend_number at hr
  refine zq <| wS (v := (.row (some true) 1 [])) (sv (d_assign rfl)) <| zn <| AB.seq ?_
  replace hr := bnd hr; obtain ⟨x4, h_1, hr⟩ := hr
  refine AB.rw <| zm rfl <| wC (v := (.sl 0 0 x4.length 1 false)) (h' := [some ⟨5, x4.map (eI .u8)⟩]) rfl (Vm.Fn.argsLe (zB (codec_AppendU32_ok N [] vn x4 h_1) []) (V.les_cons V.le_nil (V.les_cons (V.le_refl _ _) V.les_nil))) <| za rfl <| zn <| AB.ret ?_
  obtain rfl := Option.some.inj hr
  exact done_ret (r1 := (.sl 0 0 x4.length 1 false)) (res1 Tryd.results13 (rvT rfl)) (zG [0])
set_option maxRecDepth 20000 in
set_option maxHeartbeats 1000000 in
theorem spend_row_ok (N : Nat) (parts : List (List Int)) (r : (List Int)) (hr : spend_row N parts = some r) :
    Vm.Fn Tryd.prog 16 [] [(.row none 1 (parts.map (eL 1 (eI .u8))))] (.sl 0 0 r.length 1 false) [some ⟨5, r.map (eI .u8)⟩] := by
  refine fn_ab Tryd.func16 rfl (by kernel_rfl) Tryd.ntmps16 zl rfl (fr := [(0, (.row none 1 (parts.map (eL 1 (eI .u8)))))]) rfl ?_
  unfold spend_row at hr
  refine zq <| wS (v := (.row (some true) 1 [])) (sv (d_assign rfl)) <| zn <| zq <| wS (v := (.row (some true) 1 [])) (sv (d_assign rfl)) <| zn ?_
  refine AB.seq_g fun K1 hK1 hG1 => ?_
  have J1 : ∀ (l0 : List Int), spend_row_J1 N l0 = some r → K1 (mkF 17 [(3, (.sl 0 0 l0.length 1 false))]) [some ⟨5, l0.map (eI .u8)⟩] := by
    intro l0 hr
    unfold spend_row_J1 at hr
    refine hK1 _ _ <| zq <| zm rfl <| za rfl <| zn <| AB.ret ?_
    obtain rfl := Option.some.inj hr
    exact done_ret (r1 := (.sl 0 0 l0.length 1 false)) (res1 Tryd.results16 (rvT rfl)) (zG [0])
  refine zq <| zm rfl <| wS (v := (eI .i64 (parts.length : Int))) (sv (d_len rfl (lenR ti40))) <| wS (v := (eI .i64 0)) (sv (d_move rfl)) <| zn ?_
  replace hr := bnd hr; obtain ⟨res2, hL2, hr⟩ := hr
  refine AB.block ?_
  refine AB.loopN (fun m s h => ∃ (x8 : Int) (l0_1 : List Int), spend_row_L2 N parts m x8 l0_1 = some res2 ∧ Ghost 0 s h (mkF 17 [(3, (.sl 0 0 l0_1.length 1 false)), (6, (.row none 1 (parts.map (eL 1 (eI .u8))))), (7, (eI .i64 (parts.length : Int))), (8, (eI .i64 x8))]) [some ⟨5, l0_1.map (eI .u8)⟩]) (n := N) ⟨0, [], hL2, (Ghost.trans (Ghost.virt (fr' := [(3, (.sl 0 0 0 1 false)), (6, (.row none 1 (parts.map (eL 1 (eI .u8))))), (7, (eI .i64 (parts.length : Int))), (8, (eI .i64 0))]) (h1 := []) 5 (FLe.le rfl (V.le_virt rfl) (FLe.same rfl (FLe.same rfl (FLe.same rfl FLe.nil)))) HLv.nil) (Ghost.rn [0] rfl rfl (FLe.le rfl (by first | exact V.le_refl _ _ | (simp only [len_set, len_cpy]; exact V.le_refl _ _)) (FLe.same rfl (FLe.same rfl (FLe.same rfl FLe.nil)))) (HLe.live rfl V.les_nil rfl HLe.nil) rfl))⟩ (by rintro s h ⟨_, _, h0, _⟩; simp [spend_row_L2] at h0) ?_
  rintro m2 s h ⟨x8, l0_1, hr2, hg⟩
  refine AB.ghost hg ?_
  clear hg hL2
  rw [spend_row_L2] at hr2
  refine zq <| wS (sv (d_bin rfl rfl (bin_lss ..))) <| zn <| AB.seq ?_
  refine AB.cnd rfl (fun h1 => ?_) (fun h1 => ?_)
  · replace hr2 := iteT hr2 h1
    refine AB.skip <| Ex.then_mk <| AB.seq <| AB.block <| AB.seq ?_
    replace hr2 := bnd hr2; obtain ⟨x10, h_2, hr2⟩ := hr2
    refine AB.rw <| wS (sv (d_ia rfl rfl (iaR ti40 ti27 h_2))) <| wS (v := (.row none 1 (x10.map (eI .u8)))) (sv (d_load rfl (ldR h_2 (part1 ti27 rfl rfl)))) <| za rfl <| zn ?_
    replace hr2 := bnd hr2; obtain ⟨x14, h_3, hr2⟩ := hr2
    refine AB.rw <| zm rfl <| zm rfl <| wS (v := (.sl 1 0 x14.length 1 false)) (h' := [none, some ⟨5, x14.map (eI .u8)⟩]) (sv (d_append rfl rfl (appS (E := (eI .u8)) rfl ti27 ti5 ⟨rfl, rfl, zl⟩ rfl (srcR (fun _ => rfl)) h_3 rfl rfl))) <| za rfl <| OpsW.nil <| Ex.inBlock_mk <| Ex.then_mk <| AB.rw <| wS (v := (eI .i64 (IntKind.i64.wrap (x8 + 1)))) (sv (d_bin rfl rfl (bin_add ..))) <| zm rfl <| zn ?_
    exact ⟨IntKind.i64.wrap (x8 + 1), x14, hr2, (zG [1])⟩
  · replace hr2 := iteF hr2 h1
    refine AB.exit <| Ex.then_exit_mk <| Ex.then_exit_mk <| Ex.inBlock_same_mk ?_
    obtain rfl := Option.some.inj hr2
    refine Ex.then_mk ?_
    exact hG1 _ _ _ _ (zG [0]) (J1 l0_1 hr)
set_option maxRecDepth 20000 in
set_option maxHeartbeats 1000000 in
theorem spend_output_ok (N : Nat) (o_Value : Int) (o_Script : List Int) (r : (List Int)) (hr : spend_output N o_Value o_Script = some r) :
    Vm.Fn Tryd.prog 14 [] [(.agg [(eI .i64 o_Value), (.row none 1 (o_Script.map (eI .u8)))])] (.sl 0 0 r.length 1 false) [some ⟨5, r.map (eI .u8)⟩] := by
  refine fn_ab Tryd.func14 rfl (by kernel_rfl) Tryd.ntmps14 zl rfl (fr := [(0, (.agg [(eI .i64 o_Value), (.row none 1 (o_Script.map (eI .u8)))]))]) rfl ?_
  unfold spend_output at hr
  refine zq <| wS (v := (.ptr 0 0)) (h' := [some ⟨29, [(eI .i64 o_Value), (.row none 1 (o_Script.map (eI .u8)))]⟩]) (sv (d_box rfl rfl rfl rfl)) <| wS (v := (.row (some true) 1 [])) (sv (d_assign rfl)) <| zn <| AB.seq ?_
  replace hr := bnd hr; obtain ⟨x6, h_1, hr⟩ := hr
  replace hr := bnd hr; obtain ⟨x9, h_3, hr⟩ := hr
  replace hr := bnd hr; obtain ⟨x11, h_5, hr⟩ := hr
  refine AB.rd (memF []) (memF [16, 30, 31]) mixed <| DrawG.pick (n := 9) (i := 0) (by decide +kernel) rfl (gS (v := (.ptr 0 0)) (sv (d_fa rfl (fap29_0 ..)))) <| DrawG.pick (n := 8) (i := 1) (by decide +kernel) rfl (gS (v := (eI .i64 o_Value)) (sv (d_load rfl (ldP rfl (part1 ti2 rfl rfl))))) <| DrawG.pick (n := 7) (i := 2) (by decide +kernel) rfl (gS (v := (eI .u64 (IntKind.u64.wrap o_Value))) (sv (d_conv rfl (conv_int _ ⟨_, ti2⟩ ti65 rfl)))) ?_
  refine DrawG.pick (n := 6) (i := 3) (by decide +kernel) rfl (gC (v := (.sl 1 0 x6.length 1 false)) (h' := [some ⟨29, [(eI .i64 o_Value), (.row none 1 (o_Script.map (eI .u8)))]⟩, some ⟨5, x6.map (eI .u8)⟩]) (Vm.Fn.argsLe (zB (codec_AppendU64_ok N [] (IntKind.u64.wrap o_Value) x6 h_1) []) (V.les_cons V.le_nil (V.les_cons (V.le_refl _ _) V.les_nil))) (fun h => absurd h (by decide)) (fun _ => ⟨_, rfl⟩) (sv (d_call rfl orc1_hit))) ?_
  refine DrawG.pick (n := 5) (i := 4) (by decide +kernel) rfl (gS (v := (.ptr 0 1)) (sv (d_fa rfl (fap29_1 ..)))) <| DrawG.pick (n := 4) (i := 5) (by decide +kernel) rfl (gS (v := (.row none 1 (o_Script.map (eI .u8)))) (sv (d_load rfl (ldP rfl (part1 ti27 rfl rfl))))) ?_
  refine DrawG.pick (n := 3) (i := 6) (by decide +kernel) rfl (gC (v := (.sl 2 0 x9.length 1 false)) (h' := [some ⟨29, [(eI .i64 o_Value), (.row none 1 (o_Script.map (eI .u8)))]⟩, some ⟨5, x6.map (eI .u8)⟩, some ⟨5, x9.map (eI .u8)⟩]) (Vm.Fn.argsLe (zB (codec_AppendBytes_ok N [] o_Script x9 h_3) []) (V.les_cons V.le_nil (V.les_cons (V.le_refl _ _) V.les_nil))) (fun h => absurd h (by decide)) (fun _ => ⟨_, rfl⟩) (sv (d_call rfl orc1_hit))) ?_
  refine DrawG.gh (n := 2) (by decide +kernel) (Ghost.conv (fr' := [(0, (.agg [(eI .i64 o_Value), (.row none 1 (o_Script.map (eI .u8)))])), (1, (.ptr 0 0)), (2, (.row (some true) 1 [])), (3, (.ptr 0 0)), (4, (eI .i64 o_Value)), (5, (eI .u64 (IntKind.u64.wrap o_Value))), (6, (.row none 1 (x6.map (eI .u8)))), (7, (.ptr 0 1)), (8, (.row none 1 (o_Script.map (eI .u8)))), (9, (.sl 2 0 x9.length 1 false))]) (h' := [some ⟨29, [(eI .i64 o_Value), (.row none 1 (o_Script.map (eI .u8)))]⟩, none, some ⟨5, x9.map (eI .u8)⟩]) (FCv.cons rfl (Conv.same (subB_sub rfl)) (FCv.cons rfl (Conv.same (subB_sub rfl)) (FCv.cons rfl (Conv.same (subB_sub rfl)) (FCv.cons rfl (Conv.same (subB_sub rfl)) (FCv.cons rfl (Conv.same (subB_sub rfl)) (FCv.cons rfl (Conv.same (subB_sub rfl)) (FCv.cons rfl (Conv.row (subB_sub rfl) rfl rfl (all_mapE (fun _ => rfl)) (by first | rfl | (simp only [List.length_map, len_set, len_cpy]; done))) (FCv.cons rfl (Conv.same (subB_sub rfl)) (FCv.cons rfl (Conv.same (subB_sub rfl)) (FCv.cons rfl (Conv.same (subB_sub rfl)) FCv.nil)))))))))) (HCv.live (Convs.same (subB_sub rfl)) rfl (HCv.dead (HCv.live (Convs.same (subB_sub rfl)) (all_map (fun _ => rfl) _) HCv.nil)))) ?_
  refine DrawG.gh (n := 2) (by decide +kernel) (Ghost.conv (fr' := [(0, (.agg [(eI .i64 o_Value), (.row none 1 (o_Script.map (eI .u8)))])), (1, (.ptr 0 0)), (2, (.row (some true) 1 [])), (3, (.ptr 0 0)), (4, (eI .i64 o_Value)), (5, (eI .u64 (IntKind.u64.wrap o_Value))), (6, (.row none 1 (x6.map (eI .u8)))), (7, (.ptr 0 1)), (8, (.row none 1 (o_Script.map (eI .u8)))), (9, (.row none 1 (x9.map (eI .u8))))]) (h' := [some ⟨29, [(eI .i64 o_Value), (.row none 1 (o_Script.map (eI .u8)))]⟩, none, none]) (FCv.cons rfl (Conv.same (subB_sub rfl)) (FCv.cons rfl (Conv.same (subB_sub rfl)) (FCv.cons rfl (Conv.same (subB_sub rfl)) (FCv.cons rfl (Conv.same (subB_sub rfl)) (FCv.cons rfl (Conv.same (subB_sub rfl)) (FCv.cons rfl (Conv.same (subB_sub rfl)) (FCv.cons rfl (Conv.same (subB_sub rfl)) (FCv.cons rfl (Conv.same (subB_sub rfl)) (FCv.cons rfl (Conv.same (subB_sub rfl)) (FCv.cons rfl (Conv.row (subB_sub rfl) rfl rfl (all_mapE (fun _ => rfl)) (by first | rfl | (simp only [List.length_map, len_set, len_cpy]; done))) FCv.nil)))))))))) (HCv.live (Convs.same (subB_sub rfl)) rfl (HCv.dead (HCv.dead HCv.nil)))) ?_
  refine DrawG.pick (n := 2) (i := 7) (by decide +kernel) rfl (gS (v := (.sl 3 0 2 1 false)) (h' := [some ⟨29, [(eI .i64 o_Value), (.row none 1 (o_Script.map (eI .u8)))]⟩, none, none, some ⟨27, [x6, x9].map (eL 1 (eI .u8))⟩]) (sv (d_buildS rfl (bldL1 (xs := [x6, x9].map (eL 1 (eI .u8))) ti40 ti27 zl zl rfl rfl rfl rfl rfl rfl rfl)))) ?_
  refine DrawG.pick (n := 1) (i := 8) (by decide +kernel) rfl (gC (v := (.sl 4 0 x11.length 1 false)) (h' := [some ⟨29, [(eI .i64 o_Value), (.row none 1 (o_Script.map (eI .u8)))]⟩, none, none, some ⟨27, [x6, x9].map (eL 1 (eI .u8))⟩, some ⟨5, x11.map (eI .u8)⟩]) (zL (spend_row_ok N [x6, x9] x11 h_5) [] [3]) (fun h => absurd h (by decide)) (fun _ => ⟨_, rfl⟩) (sv (d_call rfl orc1_hit))) ?_
  refine DrawG.pick (n := 0) (i := 9) (by decide +kernel) rfl (gS (v := (.sl 4 0 x11.length 1 false)) (sv (d_assign rfl))) <| DrawG.nil (by decide +kernel) <| Ex.then_mk <| AB.ret ?_
  obtain rfl := Option.some.inj hr
  exact done_ret (r1 := (.sl 4 0 x11.length 1 false)) (res1 Tryd.results14 (rvT rfl)) (zG [4])
set_option maxRecDepth 20000 in
set_option maxHeartbeats 1000000 in
theorem sha_Pad_ok (N : Nat) (vn : Int) (r : (List Int)) (hr : sha_Pad N vn = some r) :
    Vm.Fn Tryd.prog 49 [] [(eI .u64 vn)] (.sl 0 0 r.length 1 false) [some ⟨5, r.map (eI .u8)⟩] := by
  refine fn_ab Tryd.func49 rfl (by kernel_rfl) Tryd.ntmps49 zl rfl (fr := [(0, (eI .u64 vn))]) rfl ?_
  unfold sha_Pad at hr
  refine zq <| wS (v := (.row (some true) 1 [])) (sv (d_assign rfl)) <| zn <| zq <| zm rfl <| wS (v := (eI .u64 (IntKind.u64.wrap (vn + 9)))) (sv (d_bin rfl rfl (bin_add ..))) <| wS (v := (eI .u64 (Int.tmod (IntKind.u64.wrap (vn + 9)) 64))) (sv (d_bin rfl rfl (bin_rem' _ _ _ _ rfl))) <| wS (v := (eI .u64 (IntKind.u64.wrap (64 - (Int.tmod (IntKind.u64.wrap (vn + 9)) 64))))) (sv (d_bin rfl rfl (bin_sub ..))) <| wS (v := (eI .u64 (Int.tmod (IntKind.u64.wrap (64 - (Int.tmod (IntKind.u64.wrap (vn + 9)) 64))) 64))) (sv (d_bin rfl rfl (bin_rem' _ _ _ _ rfl))) <| za rfl <| zn <| AB.seq ?_
  replace hr := bnd hr; obtain ⟨x15, h_1, hr⟩ := hr
  refine AB.rw <| zm rfl <| wS (v := (eI .u64 (IntKind.u64.wrap (1 + (Int.tmod (IntKind.u64.wrap (64 - (Int.tmod (IntKind.u64.wrap (vn + 9)) 64))) 64))))) (sv (d_bin rfl rfl (bin_add ..))) <| zm rfl <| wS (v := (eI .u64 (IntKind.u64.wrap (9 + (Int.tmod (IntKind.u64.wrap (64 - (Int.tmod (IntKind.u64.wrap (vn + 9)) 64))) 64))))) (sv (d_bin rfl rfl (bin_add ..))) <| wS (v := (.sl 0 0 x15.length 1 false)) (h' := [some ⟨5, x15.map (eI .u8)⟩]) (sv (d_mk rfl rfl (mkL (E := (eI .u8)) (y := 0) ti27 ti5 ⟨zl, rfl, rfl⟩ rfl rfl rfl h_1 rfl rfl))) <| za rfl <| zn <| AB.seq ?_
  replace hr := bnd hr; obtain ⟨x17, h_2, hr⟩ := hr
  refine AB.rw <| zm rfl <| wS (v := (.ptr 0 (Int.toNat 0))) (sv (d_ia rfl rfl (iaS rfl ti27 ti5 rfl h_2))) <| wN (h' := [some ⟨5, (x15.set (Int.toNat 0) 128).map (eI .u8)⟩]) (sv (d_store rfl rfl (stXe (E := (eI .u8)) (y := 128) ti5 rfl rfl h_2 rfl rfl rfl))) <| zn ?_
  refine AB.seq_g fun K1 hK1 hG1 => ?_
  have J1 : ∀ (l0 : List Int), sha_Pad_J1 N l0 = some r → K1 (mkF 33 [(4, (.sl 0 0 l0.length 1 false))]) [some ⟨5, l0.map (eI .u8)⟩] := by
    intro l0 hr
    unfold sha_Pad_J1 at hr
    refine hK1 _ _ <| zq <| zm rfl <| za rfl <| zn <| AB.ret ?_
    obtain rfl := Option.some.inj hr
    exact done_ret (r1 := (.sl 0 0 l0.length 1 false)) (res1 Tryd.results49 (rvT rfl)) (zG [0])
  refine zq <| wS (v := (eI .i64 0)) (sv (d_move rfl)) <| zn ?_
  replace hr := bnd hr; obtain ⟨res2, hL2, hr⟩ := hr
  refine AB.block <| AB.loopN (fun m s h => ∃ (x18 : Int) (l0_1 : List Int), sha_Pad_L2 N vn m x18 l0_1 = some res2 ∧ Ghost 0 s h (mkF 33 [(0, (eI .u64 vn)), (4, (.sl 0 0 l0_1.length 1 false)), (18, (eI .i64 x18))]) [some ⟨5, l0_1.map (eI .u8)⟩]) (n := N) ⟨0, x15.set (Int.toNat 0) 128, hL2, (Ghost.rn [0] rfl rfl (FLe.same rfl (FLe.le rfl (by first | exact V.le_refl _ _ | (simp only [len_set, len_cpy]; exact V.le_refl _ _)) (FLe.same rfl FLe.nil))) (HLe.live rfl (les_map (fun _ => rfl) _) (all_map (fun _ => rfl) _) HLe.nil) rfl)⟩ (by rintro s h ⟨_, _, h0, _⟩; simp [sha_Pad_L2] at h0) ?_
  rintro m2 s h ⟨x18, l0_1, hr2, hg⟩
  refine AB.ghost hg ?_
  clear hg hL2
  rw [sha_Pad_L2] at hr2
  refine zq <| wS (v := (eB (decide (x18 < 8)))) (sv (d_bin rfl rfl (bin_lss ..))) <| zn <| AB.seq ?_
  refine AB.cnd rfl (fun h3 => ?_) (fun h3 => ?_)
  · replace hr2 := iteT hr2 h3
    refine AB.skip <| Ex.then_mk <| AB.seq <| AB.block <| zq <| zm rfl <| za rfl <| zn ?_
    replace hr2 := bnd hr2; obtain ⟨x27, h_4, hr2⟩ := hr2
    replace hr2 := bnd hr2; obtain ⟨x30, h_5, hr2⟩ := hr2
    refine AB.rw <| zm rfl <| zm rfl <| wS (v := (eI .u64 (IntKind.u64.wrap (8 * vn)))) (sv (d_bin rfl rfl (bin_mul ..))) <| zm rfl <| wS (v := (eI .i64 (IntKind.i64.wrap (8 * x18)))) (sv (d_bin rfl rfl (bin_mul ..))) <| wS (v := (eI .i64 (IntKind.i64.wrap (56 - (IntKind.i64.wrap (8 * x18)))))) (sv (d_bin rfl rfl (bin_sub ..))) <| wS (sv (d_bin rfl rfl (bin_shr' _ _ _ _ h_4))) <| wS (sv (d_conv rfl (conv_int _ ⟨_, ti65⟩ ti5 rfl))) ?_
    refine wS (v := (.sl 1 0 1 1 false)) (h' := [some ⟨5, l0_1.map (eI .u8)⟩, some ⟨5, [IntKind.u8.wrap x27].map (eI .u8)⟩]) (sv (d_buildS rfl (bldL1 (xs := [IntKind.u8.wrap x27].map (eI .u8)) ti27 ti5 zl zl rfl rfl rfl rfl rfl rfl rfl))) <| wS (v := (.sl 2 0 x30.length 1 false)) (h' := [none, some ⟨5, [IntKind.u8.wrap x27].map (eI .u8)⟩, some ⟨5, x30.map (eI .u8)⟩]) (sv (d_append rfl rfl (appS (E := (eI .u8)) rfl ti27 ti5 ⟨rfl, rfl, zl⟩ rfl (srcS rfl rfl) h_5 rfl rfl))) <| za rfl <| OpsW.nil <| Ex.inBlock_mk <| Ex.then_mk <| AB.rw ?_
    refine wS (v := (eI .i64 (IntKind.i64.wrap (x18 + 1)))) (sv (d_bin rfl rfl (bin_add ..))) <| zm rfl <| zn ?_
    exact ⟨IntKind.i64.wrap (x18 + 1), x30, hr2, (zG [2])⟩
  · replace hr2 := iteF hr2 h3
    refine AB.exit <| Ex.then_exit_mk <| Ex.then_exit_mk <| Ex.inBlock_same_mk ?_
    obtain rfl := Option.some.inj hr2
    refine Ex.then_mk ?_
    exact hG1 _ _ _ _ (zG [0]) (J1 l0_1 hr)
set_option maxRecDepth 20000 in
set_option maxHeartbeats 1000000 in
theorem sha_row_ok (N : Nat) (parts : List (List Int)) (r : (List Int)) (hr : sha_row N parts = some r) :
    Vm.Fn Tryd.prog 33 [] [(.row none 1 (parts.map (eL 1 (eI .u8))))] (.sl 0 0 r.length 1 false) [some ⟨5, r.map (eI .u8)⟩] := by
  refine fn_ab Tryd.func33 rfl (by kernel_rfl) Tryd.ntmps33 zl rfl (fr := [(0, (.row none 1 (parts.map (eL 1 (eI .u8)))))]) rfl ?_
  unfold sha_row at hr
  refine zq <| wS (v := (.row (some true) 1 [])) (sv (d_assign rfl)) <| zn <| zq <| wS (v := (.row (some true) 1 [])) (sv (d_assign rfl)) <| zn ?_
  refine AB.seq_g fun K1 hK1 hG1 => ?_
  have J1 : ∀ (l0 : List Int), sha_row_J1 N l0 = some r → K1 (mkF 17 [(3, (.sl 0 0 l0.length 1 false))]) [some ⟨5, l0.map (eI .u8)⟩] := by
    intro l0 hr
    unfold sha_row_J1 at hr
    refine hK1 _ _ <| zq <| zm rfl <| za rfl <| zn <| AB.ret ?_
    obtain rfl := Option.some.inj hr
    exact done_ret (r1 := (.sl 0 0 l0.length 1 false)) (res1 Tryd.results33 (rvT rfl)) (zG [0])
  refine zq <| zm rfl <| wS (v := (eI .i64 (parts.length : Int))) (sv (d_len rfl (lenR ti40))) <| wS (v := (eI .i64 0)) (sv (d_move rfl)) <| zn ?_
  replace hr := bnd hr; obtain ⟨res2, hL2, hr⟩ := hr
  refine AB.block ?_
  refine AB.loopN (fun m s h => ∃ (x8 : Int) (l0_1 : List Int), sha_row_L2 N parts m x8 l0_1 = some res2 ∧ Ghost 0 s h (mkF 17 [(3, (.sl 0 0 l0_1.length 1 false)), (6, (.row none 1 (parts.map (eL 1 (eI .u8))))), (7, (eI .i64 (parts.length : Int))), (8, (eI .i64 x8))]) [some ⟨5, l0_1.map (eI .u8)⟩]) (n := N) ⟨0, [], hL2, (Ghost.trans (Ghost.virt (fr' := [(3, (.sl 0 0 0 1 false)), (6, (.row none 1 (parts.map (eL 1 (eI .u8))))), (7, (eI .i64 (parts.length : Int))), (8, (eI .i64 0))]) (h1 := []) 5 (FLe.le rfl (V.le_virt rfl) (FLe.same rfl (FLe.same rfl (FLe.same rfl FLe.nil)))) HLv.nil) (Ghost.rn [0] rfl rfl (FLe.le rfl (by first | exact V.le_refl _ _ | (simp only [len_set, len_cpy]; exact V.le_refl _ _)) (FLe.same rfl (FLe.same rfl (FLe.same rfl FLe.nil)))) (HLe.live rfl V.les_nil rfl HLe.nil) rfl))⟩ (by rintro s h ⟨_, _, h0, _⟩; simp [sha_row_L2] at h0) ?_
  rintro m2 s h ⟨x8, l0_1, hr2, hg⟩
  refine AB.ghost hg ?_
  clear hg hL2
  rw [sha_row_L2] at hr2
  refine zq <| wS (sv (d_bin rfl rfl (bin_lss ..))) <| zn <| AB.seq ?_
  refine AB.cnd rfl (fun h1 => ?_) (fun h1 => ?_)
  · replace hr2 := iteT hr2 h1
    refine AB.skip <| Ex.then_mk <| AB.seq <| AB.block <| AB.seq ?_
    replace hr2 := bnd hr2; obtain ⟨x10, h_2, hr2⟩ := hr2
    refine AB.rw <| wS (sv (d_ia rfl rfl (iaR ti40 ti27 h_2))) <| wS (v := (.row none 1 (x10.map (eI .u8)))) (sv (d_load rfl (ldR h_2 (part1 ti27 rfl rfl)))) <| za rfl <| zn ?_
    replace hr2 := bnd hr2; obtain ⟨x14, h_3, hr2⟩ := hr2
    refine AB.rw <| zm rfl <| zm rfl <| wS (v := (.sl 1 0 x14.length 1 false)) (h' := [none, some ⟨5, x14.map (eI .u8)⟩]) (sv (d_append rfl rfl (appS (E := (eI .u8)) rfl ti27 ti5 ⟨rfl, rfl, zl⟩ rfl (srcR (fun _ => rfl)) h_3 rfl rfl))) <| za rfl <| OpsW.nil <| Ex.inBlock_mk <| Ex.then_mk <| AB.rw <| wS (v := (eI .i64 (IntKind.i64.wrap (x8 + 1)))) (sv (d_bin rfl rfl (bin_add ..))) <| zm rfl <| zn ?_
    exact ⟨IntKind.i64.wrap (x8 + 1), x14, hr2, (zG [1])⟩
  · replace hr2 := iteF hr2 h1
    refine AB.exit <| Ex.then_exit_mk <| Ex.then_exit_mk <| Ex.inBlock_same_mk ?_
    obtain rfl := Option.some.inj hr2
    refine Ex.then_mk ?_
    exact hG1 _ _ _ _ (zG [0]) (J1 l0_1 hr)
set_option maxRecDepth 20000 in
set_option maxHeartbeats 1000000 in
theorem math_bits_RotateLeft32_ok (N : Nat) (x : Int) (k : Int) (r : Int) (hr : math_bits_RotateLeft32 N x k = some r) :
    Vm.Fn Tryd.prog 59 [] [(eI .u32 x), (eI .i64 k)] (eI .u32 r) [] := by
  refine fn_ab Tryd.func59 rfl (by kernel_rfl) Tryd.ntmps59 zl rfl (fr := [(0, (eI .u32 x)), (1, (eI .i64 k))]) rfl ?_
  unfold math_bits_RotateLeft32 at hr
  refine zq <| wS (v := (eI .u32 0)) (sv (d_assign rfl)) <| zn <| zq <| zm rfl <| wS (sv (d_conv rfl (conv_int _ ⟨_, ti3⟩ ti74 rfl))) <| wS (v := (eI .u64 (bits .and .u64 (IntKind.u64.wrap k) 31))) (sv (d_bin rfl rfl (bin_and ..))) <| za rfl <| zn <| AB.seq ?_
  replace hr := bnd hr; obtain ⟨x11, h_1, hr⟩ := hr
  replace hr := bnd hr; obtain ⟨x15, h_2, hr⟩ := hr
  refine AB.rw <| zm rfl <| zm rfl <| wS (sv (d_bin rfl rfl (bin_shl' _ _ _ _ h_1))) <| zm rfl <| zm rfl <| wS (v := (eI .u64 (IntKind.u64.wrap (32 - (bits .and .u64 (IntKind.u64.wrap k) 31))))) (sv (d_bin rfl rfl (bin_sub ..))) <| wS (sv (d_bin rfl rfl (bin_shr' _ _ _ _ h_2))) <| wS (sv (d_bin rfl rfl (bin_or ..))) <| za rfl <| zn <| AB.ret ?_
  obtain rfl := Option.some.inj hr
  exact done_ret (r1 := (eI .u32 (bits .or .u32 x11 x15))) (res1 Tryd.results59 (rvT rfl)) (zG [])
set_option maxRecDepth 20000 in
set_option maxHeartbeats 1000000 in
theorem sha_rotr_ok (N : Nat) (x : Int) (vn : Int) (r : Int) (hr : sha_rotr N x vn = some r) :
    Vm.Fn Tryd.prog 58 [] [(eI .u32 x), (eI .i64 vn)] (eI .u32 r) [] := by
  refine fn_ab Tryd.func58 rfl (by kernel_rfl) Tryd.ntmps58 zl rfl (fr := [(0, (eI .u32 x)), (1, (eI .i64 vn))]) rfl ?_
  unfold sha_rotr at hr
  refine zq <| wS (v := (eI .u32 0)) (sv (d_assign rfl)) <| zn <| AB.seq ?_
  replace hr := bnd hr; obtain ⟨x8, h_1, hr⟩ := hr
  refine AB.rw <| zm rfl <| zm rfl <| wS (sv (d_un rfl (un_neg ..))) <| wC rfl (Vm.Fn.pure (math_bits_RotateLeft32_ok N x (IntKind.i64.wrap (0 - vn)) x8 h_1) rfl rfl) <| za rfl <| zn <| AB.ret ?_
  obtain rfl := Option.some.inj hr
  exact done_ret (r1 := (eI .u32 x8)) (res1 Tryd.results58 (rvT rfl)) (zG [])
set_option maxRecDepth 20000 in
set_option maxHeartbeats 1000000 in
theorem sha_schedule_ok (N : Nat) (block : List Int) (r : (List Int)) (hr : sha_schedule N block = some r) :
    Vm.Fn Tryd.prog 57 [] [(.agg (block.map (eI .u8)))] (.agg (r.map (eI .u32))) [] := by
  refine fn_ab Tryd.func57 rfl (by kernel_rfl) Tryd.ntmps57 zl rfl (fr := [(0, (.agg (block.map (eI .u8))))]) rfl ?_
  unfold sha_schedule at hr
  refine zq <| wS (v := (.ptr 0 0)) (h' := [some ⟨72, block.map (eI .u8)⟩]) (sv (d_box rfl (flatA (fun _ => rfl)) rfl rfl)) <| wS (v := (.ptr 1 0)) (h' := [some ⟨72, block.map (eI .u8)⟩, some ⟨78, (List.replicate 64 0).map (eI .u32)⟩]) (sv (d_alloc ti78 rfl rfl rfl)) <| zn <| zq <| wS (v := (.ptr 2 0)) (h' := [some ⟨72, block.map (eI .u8)⟩, some ⟨78, (List.replicate 64 0).map (eI .u32)⟩, some ⟨78, (List.replicate 64 0).map (eI .u32)⟩]) (sv (d_alloc ti78 rfl rfl rfl)) <| zn ?_
  refine AB.seq_g fun K1 hK1 hG1 => ?_
  have J1 : ∀ (l1 : List Int), sha_schedule_J1 N l1 = some r → K1 (mkF 85 [(2, (.ptr 0 0)), (3, (.ptr 1 0))]) [some ⟨78, (List.replicate 64 0).map (eI .u32)⟩, some ⟨78, l1.map (eI .u32)⟩] := by
    intro l1 hr
    unfold sha_schedule_J1 at hr
    refine hK1 _ _ ?_
    refine AB.seq_g fun K2 hK2 hG2 => ?_
    have J2 : ∀ (l1_1 : List Int), sha_schedule_J2 N l1_1 = some r → K2 (mkF 85 [(2, (.ptr 0 0)), (3, (.ptr 1 0))]) [some ⟨78, (List.replicate 64 0).map (eI .u32)⟩, some ⟨78, l1_1.map (eI .u32)⟩] := by
      intro l1_1 hr
      unfold sha_schedule_J2 at hr
      refine hK2 _ _ <| AB.seq ?_
      replace hr := bnd hr; obtain ⟨q, h_1, hr⟩ := hr
      refine AB.rw <| wS (v := (.agg (l1_1.map (eI .u32)))) (sv (d_load rfl (ldA (E := (eI .u32)) (l := l1_1) ti78 rfl rfl (arr_len h_1)))) <| wN (h' := [some ⟨78, l1_1.map (eI .u32)⟩, some ⟨78, l1_1.map (eI .u32)⟩]) (sv (d_store rfl rfl (stA (E := (eI .u32)) (l := List.replicate 64 0) ti78 rfl rfl (fun _ => rfl) rfl (arr_len h_1) rfl))) <| zn <| AB.ret ?_
      obtain rfl := Option.some.inj hr
      exact done_ret (r1 := (.agg (l1_1.map (eI .u32)))) (res1 Tryd.results57 (rvC rfl (ldA (E := (eI .u32)) (l := l1_1) ti78 rfl rfl (arr_len h_1)))) (zG [])
    refine zq <| wS (v := (eI .i64 16)) (sv (d_assign rfl)) <| zn ?_
    replace hr := bnd hr; obtain ⟨res3, hL3, hr⟩ := hr
    refine AB.block <| AB.loopN (fun m s h => ∃ (vi : Int) (l1_2 : List Int), sha_schedule_L3 N m vi l1_2 = some res3 ∧ Ghost 0 s h (mkF 85 [(2, (.ptr 0 0)), (3, (.ptr 1 0)), (6, (eI .i64 vi))]) [some ⟨78, (List.replicate 64 0).map (eI .u32)⟩, some ⟨78, l1_2.map (eI .u32)⟩]) (n := N) ⟨16, l1, hL3, (zG [0, 1])⟩ (by rintro s h ⟨_, _, h0, _⟩; simp [sha_schedule_L3] at h0) ?_
    rintro m3 s h ⟨vi, l1_2, hr3, hg⟩
    refine AB.ghost hg ?_
    clear hg hL3
    rw [sha_schedule_L3] at hr3
    refine AB.seq <| zq <| zm rfl <| wS (v := (eB (decide (vi < 64)))) (sv (d_bin rfl rfl (bin_lss ..))) <| zn ?_
    refine AB.cnd rfl (fun h2 => ?_) (fun h2 => ?_)
    · replace hr3 := iteT hr3 h2
      refine AB.skip <| Ex.then_mk <| AB.seq <| AB.block <| AB.seq ?_
      replace hr3 := bnd hr3; obtain ⟨x37, h_3, hr3⟩ := hr3
      replace hr3 := bnd hr3; obtain ⟨x39, h_4, hr3⟩ := hr3
      replace hr3 := bnd hr3; obtain ⟨x44, h_6, hr3⟩ := hr3
      replace hr3 := bnd hr3; obtain ⟨x50, h_8, hr3⟩ := hr3
      refine AB.rd (memF [58]) (memF []) mixed <| DrawG.pick (n := 17) (i := 0) (by decide +kernel) rfl (gS (v := (eI .i64 vi)) (sv (d_move rfl))) <| DrawG.pick (n := 16) (i := 1) (by decide +kernel) rfl (gS (v := (eI .i64 (IntKind.i64.wrap (vi - 15)))) (sv (d_bin rfl rfl (bin_sub ..)))) <| DrawG.pick (n := 15) (i := 2) (by decide +kernel) rfl (gS (v := (.ptr 1 (Int.toNat (IntKind.i64.wrap (vi - 15))))) (sv (d_ia rfl rfl (iaB ti78 ti22 rfl h_3)))) <| DrawG.pick (n := 14) (i := 3) (by decide +kernel) rfl (gS (v := (eI .u32 x37)) (sv (d_load rfl (ldX (E := (eI .u32)) (y := x37) ti22 rfl rfl (aix_idx h_3))))) ?_
      refine DrawG.pick (n := 13) (i := 4) (by decide +kernel) rfl (gC (v := (eI .u32 x39)) (h' := [some ⟨78, (List.replicate 64 0).map (eI .u32)⟩, some ⟨78, l1_2.map (eI .u32)⟩]) (Vm.Fn.pure (sha_rotr_ok N x37 7 x39 h_4) rfl rfl) (fun _ => rfl) (fun h => absurd h (by decide)) (sv (d_call rfl orc1_hit))) ?_
      refine DrawG.pick (n := 12) (i := 5) (by decide +kernel) rfl (gS (v := (eI .i64 vi)) (sv (d_move rfl))) <| DrawG.pick (n := 11) (i := 6) (by decide +kernel) rfl (gS (v := (eI .i64 (IntKind.i64.wrap (vi - 15)))) (sv (d_bin rfl rfl (bin_sub ..)))) <| DrawG.pick (n := 10) (i := 7) (by decide +kernel) rfl (gS (v := (.ptr 1 (Int.toNat (IntKind.i64.wrap (vi - 15))))) (sv (d_ia rfl rfl (iaB ti78 ti22 rfl h_3)))) <| DrawG.pick (n := 9) (i := 8) (by decide +kernel) rfl (gS (v := (eI .u32 x37)) (sv (d_load rfl (ldX (E := (eI .u32)) (y := x37) ti22 rfl rfl (aix_idx h_3))))) ?_
      refine DrawG.pick (n := 8) (i := 9) (by decide +kernel) rfl (gC (v := (eI .u32 x44)) (h' := [some ⟨78, (List.replicate 64 0).map (eI .u32)⟩, some ⟨78, l1_2.map (eI .u32)⟩]) (Vm.Fn.pure (sha_rotr_ok N x37 18 x44 h_6) rfl rfl) (fun _ => rfl) (fun h => absurd h (by decide)) (sv (d_call rfl orc1_hit))) ?_
      refine DrawG.pick (n := 7) (i := 10) (by decide +kernel) rfl (gS (v := (eI .u32 (bits .xor .u32 x39 x44))) (sv (d_bin rfl rfl (bin_xor ..)))) <| DrawG.pick (n := 6) (i := 11) (by decide +kernel) rfl (gS (v := (eI .i64 vi)) (sv (d_move rfl))) <| DrawG.pick (n := 5) (i := 12) (by decide +kernel) rfl (gS (v := (eI .i64 (IntKind.i64.wrap (vi - 15)))) (sv (d_bin rfl rfl (bin_sub ..)))) <| DrawG.pick (n := 4) (i := 13) (by decide +kernel) rfl (gS (v := (.ptr 1 (Int.toNat (IntKind.i64.wrap (vi - 15))))) (sv (d_ia rfl rfl (iaB ti78 ti22 rfl h_3)))) ?_
      refine DrawG.pick (n := 3) (i := 14) (by decide +kernel) rfl (gS (v := (eI .u32 x37)) (sv (d_load rfl (ldX (E := (eI .u32)) (y := x37) ti22 rfl rfl (aix_idx h_3))))) <| DrawG.pick (n := 2) (i := 15) (by decide +kernel) rfl (gS (v := (eI .u32 x50)) (sv (d_bin rfl rfl (bin_shr' _ _ _ _ h_8)))) <| DrawG.pick (n := 1) (i := 16) (by decide +kernel) rfl (gS (v := (eI .u32 (bits .xor .u32 (bits .xor .u32 x39 x44) x50))) (sv (d_bin rfl rfl (bin_xor ..)))) <| DrawG.pick (n := 0) (i := 17) (by decide +kernel) rfl (gS (v := (eI .u32 (bits .xor .u32 (bits .xor .u32 x39 x44) x50))) (sv (d_assign rfl))) ?_
      refine DrawG.nil (by decide +kernel) <| Ex.then_mk <| AB.seq ?_
      replace hr3 := bnd hr3; obtain ⟨x54, h_9, hr3⟩ := hr3
      replace hr3 := bnd hr3; obtain ⟨x56, h_10, hr3⟩ := hr3
      replace hr3 := bnd hr3; obtain ⟨x61, h_12, hr3⟩ := hr3
      replace hr3 := bnd hr3; obtain ⟨x67, h_14, hr3⟩ := hr3
      refine AB.rd (memF [58]) (memF []) mixed <| DrawG.pick (n := 17) (i := 0) (by decide +kernel) rfl (gS (v := (eI .i64 vi)) (sv (d_move rfl))) <| DrawG.pick (n := 16) (i := 1) (by decide +kernel) rfl (gS (v := (eI .i64 (IntKind.i64.wrap (vi - 2)))) (sv (d_bin rfl rfl (bin_sub ..)))) <| DrawG.pick (n := 15) (i := 2) (by decide +kernel) rfl (gS (v := (.ptr 1 (Int.toNat (IntKind.i64.wrap (vi - 2))))) (sv (d_ia rfl rfl (iaB ti78 ti22 rfl h_9)))) <| DrawG.pick (n := 14) (i := 3) (by decide +kernel) rfl (gS (v := (eI .u32 x54)) (sv (d_load rfl (ldX (E := (eI .u32)) (y := x54) ti22 rfl rfl (aix_idx h_9))))) ?_
      refine DrawG.pick (n := 13) (i := 4) (by decide +kernel) rfl (gC (v := (eI .u32 x56)) (h' := [some ⟨78, (List.replicate 64 0).map (eI .u32)⟩, some ⟨78, l1_2.map (eI .u32)⟩]) (Vm.Fn.pure (sha_rotr_ok N x54 17 x56 h_10) rfl rfl) (fun _ => rfl) (fun h => absurd h (by decide)) (sv (d_call rfl orc1_hit))) ?_
      refine DrawG.pick (n := 12) (i := 5) (by decide +kernel) rfl (gS (v := (eI .i64 vi)) (sv (d_move rfl))) <| DrawG.pick (n := 11) (i := 6) (by decide +kernel) rfl (gS (v := (eI .i64 (IntKind.i64.wrap (vi - 2)))) (sv (d_bin rfl rfl (bin_sub ..)))) <| DrawG.pick (n := 10) (i := 7) (by decide +kernel) rfl (gS (v := (.ptr 1 (Int.toNat (IntKind.i64.wrap (vi - 2))))) (sv (d_ia rfl rfl (iaB ti78 ti22 rfl h_9)))) <| DrawG.pick (n := 9) (i := 8) (by decide +kernel) rfl (gS (v := (eI .u32 x54)) (sv (d_load rfl (ldX (E := (eI .u32)) (y := x54) ti22 rfl rfl (aix_idx h_9))))) ?_
      refine DrawG.pick (n := 8) (i := 9) (by decide +kernel) rfl (gC (v := (eI .u32 x61)) (h' := [some ⟨78, (List.replicate 64 0).map (eI .u32)⟩, some ⟨78, l1_2.map (eI .u32)⟩]) (Vm.Fn.pure (sha_rotr_ok N x54 19 x61 h_12) rfl rfl) (fun _ => rfl) (fun h => absurd h (by decide)) (sv (d_call rfl orc1_hit))) ?_
      refine DrawG.pick (n := 7) (i := 10) (by decide +kernel) rfl (gS (v := (eI .u32 (bits .xor .u32 x56 x61))) (sv (d_bin rfl rfl (bin_xor ..)))) <| DrawG.pick (n := 6) (i := 11) (by decide +kernel) rfl (gS (v := (eI .i64 vi)) (sv (d_move rfl))) <| DrawG.pick (n := 5) (i := 12) (by decide +kernel) rfl (gS (v := (eI .i64 (IntKind.i64.wrap (vi - 2)))) (sv (d_bin rfl rfl (bin_sub ..)))) <| DrawG.pick (n := 4) (i := 13) (by decide +kernel) rfl (gS (v := (.ptr 1 (Int.toNat (IntKind.i64.wrap (vi - 2))))) (sv (d_ia rfl rfl (iaB ti78 ti22 rfl h_9)))) ?_
      refine DrawG.pick (n := 3) (i := 14) (by decide +kernel) rfl (gS (v := (eI .u32 x54)) (sv (d_load rfl (ldX (E := (eI .u32)) (y := x54) ti22 rfl rfl (aix_idx h_9))))) <| DrawG.pick (n := 2) (i := 15) (by decide +kernel) rfl (gS (v := (eI .u32 x67)) (sv (d_bin rfl rfl (bin_shr' _ _ _ _ h_14)))) <| DrawG.pick (n := 1) (i := 16) (by decide +kernel) rfl (gS (v := (eI .u32 (bits .xor .u32 (bits .xor .u32 x56 x61) x67))) (sv (d_bin rfl rfl (bin_xor ..)))) <| DrawG.pick (n := 0) (i := 17) (by decide +kernel) rfl (gS (v := (eI .u32 (bits .xor .u32 (bits .xor .u32 x56 x61) x67))) (sv (d_assign rfl))) ?_
      refine DrawG.nil (by decide +kernel) <| Ex.then_mk ?_
      replace hr3 := bnd hr3; obtain ⟨x72, h_15, hr3⟩ := hr3
      replace hr3 := bnd hr3; obtain ⟨x78, h_16, hr3⟩ := hr3
      replace hr3 := bnd hr3; obtain ⟨x83, h_17, hr3⟩ := hr3
      refine AB.rg E0 (fun _ => by show drawOk (fun _ => false) _ = true; decide +kernel) <| tS (sv (d_move rfl)) <| tS (sv (d_move rfl)) <| tS (v := (eI .i64 (IntKind.i64.wrap (vi - 16)))) (sv (d_bin rfl rfl (bin_sub ..))) <| tS (v := (.ptr 1 (Int.toNat (IntKind.i64.wrap (vi - 16))))) (sv (d_ia rfl rfl (iaB ti78 ti22 rfl h_15))) <| tS (v := (eI .u32 x72)) (sv (d_load rfl (ldX (E := (eI .u32)) (y := x72) ti22 rfl rfl (aix_idx h_15)))) <| tS (sv (d_move rfl)) <| tS (sv (d_bin rfl rfl (bin_add ..))) <| tS (sv (d_move rfl)) <| tS (v := (eI .i64 (IntKind.i64.wrap (vi - 7)))) (sv (d_bin rfl rfl (bin_sub ..))) ?_
      refine tS (v := (.ptr 1 (Int.toNat (IntKind.i64.wrap (vi - 7))))) (sv (d_ia rfl rfl (iaB ti78 ti22 rfl h_16))) <| tS (v := (eI .u32 x78)) (sv (d_load rfl (ldX (E := (eI .u32)) (y := x78) ti22 rfl rfl (aix_idx h_16)))) <| tS (sv (d_bin rfl rfl (bin_add ..))) <| tS (sv (d_move rfl)) <| tS (sv (d_bin rfl rfl (bin_add ..))) <| tS (v := (.ptr 1 (Int.toNat vi))) (sv (d_ia rfl rfl (iaB ti78 ti22 rfl h_17))) ?_
      refine tN (h' := [some ⟨78, (List.replicate 64 0).map (eI .u32)⟩, some ⟨78, (l1_2.set (Int.toNat vi) (IntKind.u32.wrap ((IntKind.u32.wrap ((IntKind.u32.wrap (x72 + (bits .xor .u32 (bits .xor .u32 x39 x44) x50))) + x78)) + (bits .xor .u32 (bits .xor .u32 x56 x61) x67)))).map (eI .u32)⟩]) (sv (d_store rfl rfl (stXe (E := (eI .u32)) (y := IntKind.u32.wrap ((IntKind.u32.wrap ((IntKind.u32.wrap (x72 + (bits .xor .u32 (bits .xor .u32 x39 x44) x50))) + x78)) + (bits .xor .u32 (bits .xor .u32 x56 x61) x67))) ti22 rfl rfl (aix_idx h_17) rfl rfl rfl))) <| OpsTo.nil <| Ex.inBlock_mk <| Ex.then_mk <| AB.rw ?_
      refine zm rfl <| wS (v := (eI .i64 (IntKind.i64.wrap (vi + 1)))) (sv (d_bin rfl rfl (bin_add ..))) <| za rfl <| zn ?_
      exact ⟨IntKind.i64.wrap (vi + 1), l1_2.set (Int.toNat vi) (IntKind.u32.wrap ((IntKind.u32.wrap ((IntKind.u32.wrap (x72 + (bits .xor .u32 (bits .xor .u32 x39 x44) x50))) + x78)) + (bits .xor .u32 (bits .xor .u32 x56 x61) x67))), hr3, (zG [0, 1])⟩
    · replace hr3 := iteF hr3 h2
      refine AB.exit <| Ex.then_exit_mk <| Ex.then_exit_mk <| Ex.inBlock_same_mk ?_
      obtain rfl := Option.some.inj hr3
      refine Ex.then_mk ?_
      exact hG2 _ _ _ _ (zG [0, 1]) (J2 l1_2 hr)
  refine zq <| wS (v := (eI .i64 0)) (sv (d_move rfl)) <| zn ?_
  replace hr := bnd hr; obtain ⟨res4, hL4, hr⟩ := hr
  refine AB.block <| AB.loopN (fun m s h => ∃ (x9 : Int) (l2 : List Int), sha_schedule_L4 N block m x9 l2 = some res4 ∧ Ghost 0 s h (mkF 85 [(1, (.ptr 0 0)), (2, (.ptr 1 0)), (3, (.ptr 2 0)), (9, (eI .i64 x9))]) [some ⟨72, block.map (eI .u8)⟩, some ⟨78, (List.replicate 64 0).map (eI .u32)⟩, some ⟨78, l2.map (eI .u32)⟩]) (n := N) ⟨0, List.replicate 64 0, hL4, (zG [0, 1, 2])⟩ (by rintro s h ⟨_, _, h0, _⟩; simp [sha_schedule_L4] at h0) ?_
  rintro m4 s h ⟨x9, l2, hr4, hg⟩
  refine AB.ghost hg ?_
  clear hg hL4
  rw [sha_schedule_L4] at hr4
  refine zq <| wS (v := (eB (decide (x9 < 16)))) (sv (d_bin rfl rfl (bin_lss ..))) <| zn <| AB.seq ?_
  refine AB.cnd rfl (fun h18 => ?_) (fun h18 => ?_)
  · replace hr4 := iteT hr4 h18
    refine AB.skip <| Ex.then_mk ?_
    refine AB.seq_g fun K5 hK5 hG5 => ?_
    have J5 : ∀ (l2_1 : List Int), sha_schedule_J5 N block x9 (sha_schedule_L4 N block m4) l2_1 = some res4 → K5 (mkF 85 [(1, (.ptr 0 0)), (2, (.ptr 1 0)), (3, (.ptr 2 0)), (9, (eI .i64 x9))]) [some ⟨72, block.map (eI .u8)⟩, some ⟨78, (List.replicate 64 0).map (eI .u32)⟩, some ⟨78, l2_1.map (eI .u32)⟩] := by
      intro l2_1 hr4
      unfold sha_schedule_J5 at hr4
      refine hK5 _ _ <| AB.rw <| wS (v := (eI .i64 (IntKind.i64.wrap (x9 + 1)))) (sv (d_bin rfl rfl (bin_add ..))) <| zm rfl <| zn ?_
      exact ⟨IntKind.i64.wrap (x9 + 1), l2_1, hr4, (zG [0, 1, 2])⟩
    refine AB.block <| zq <| zm rfl <| za rfl <| zn <| zq <| wS (v := (eI .i64 0)) (sv (d_move rfl)) <| zn ?_
    replace hr4 := bnd hr4; obtain ⟨res6, hL6, hr4⟩ := hr4
    refine AB.block <| AB.loopN (fun m s h => ∃ (x12 : Int) (l2_2 : List Int), sha_schedule_L6 N block x9 m x12 l2_2 = some res6 ∧ Ghost 0 s h (mkF 85 [(1, (.ptr 0 0)), (2, (.ptr 1 0)), (3, (.ptr 2 0)), (4, (eI .i64 x9)), (9, (eI .i64 x9)), (12, (eI .i64 x12))]) [some ⟨72, block.map (eI .u8)⟩, some ⟨78, (List.replicate 64 0).map (eI .u32)⟩, some ⟨78, l2_2.map (eI .u32)⟩]) (n := N) ⟨0, l2, hL6, (zG [0, 1, 2])⟩ (by rintro s h ⟨_, _, h0, _⟩; simp [sha_schedule_L6] at h0) ?_
    rintro m6 s h ⟨x12, l2_2, hr6, hg⟩
    refine AB.ghost hg ?_
    clear hg hL6
    rw [sha_schedule_L6] at hr6
    refine zq <| wS (v := (eB (decide (x12 < 4)))) (sv (d_bin rfl rfl (bin_lss ..))) <| zn <| AB.seq ?_
    refine AB.cnd rfl (fun h19 => ?_) (fun h19 => ?_)
    · replace hr6 := iteT hr6 h19
      refine AB.skip <| Ex.then_mk <| AB.seq <| AB.block <| zq <| zm rfl <| za rfl <| zn ?_
      replace hr6 := bnd hr6; obtain ⟨x17, h_20, hr6⟩ := hr6
      replace hr6 := bnd hr6; obtain ⟨x19, h_21, hr6⟩ := hr6
      replace hr6 := bnd hr6; obtain ⟨x24, h_22, hr6⟩ := hr6
      refine AB.rg E0 (fun _ => by show drawOk (fun _ => false) _ = true; decide +kernel) <| tS (sv (d_move rfl)) <| tS (sv (d_move rfl)) <| tS (v := (.ptr 2 (Int.toNat x9))) (sv (d_ia rfl rfl (iaB ti78 ti22 rfl h_20))) <| tS (v := (eI .u32 x17)) (sv (d_load rfl (ldX (E := (eI .u32)) (y := x17) ti22 rfl rfl (aix_idx h_20)))) <| tS (v := (eI .u32 x19)) (sv (d_bin rfl rfl (bin_shl' _ _ _ _ h_21))) <| tS (sv (d_move rfl)) <| tS (v := (eI .i64 (IntKind.i64.wrap (4 * x9)))) (sv (d_bin rfl rfl (bin_mul ..))) <| tS (sv (d_move rfl)) <| tS (sv (d_bin rfl rfl (bin_add ..))) ?_
      refine tS (v := (.ptr 0 (Int.toNat (IntKind.i64.wrap ((IntKind.i64.wrap (4 * x9)) + x12))))) (sv (d_ia rfl rfl (iaB ti72 ti5 rfl h_22))) <| tS (v := (eI .u8 x24)) (sv (d_load rfl (ldX (E := (eI .u8)) (y := x24) ti5 rfl rfl (aix_idx h_22)))) <| tS (sv (d_conv rfl (conv_int _ ⟨_, ti5⟩ ti22 rfl))) <| tS (sv (d_bin rfl rfl (bin_or ..))) <| tS (v := (.ptr 2 (Int.toNat x9))) (sv (d_ia rfl rfl (iaB ti78 ti22 rfl h_20))) ?_
      refine tN (h' := [some ⟨72, block.map (eI .u8)⟩, some ⟨78, (List.replicate 64 0).map (eI .u32)⟩, some ⟨78, (l2_2.set (Int.toNat x9) (bits .or .u32 x19 (IntKind.u32.wrap x24))).map (eI .u32)⟩]) (sv (d_store rfl rfl (stXe (E := (eI .u32)) (y := bits .or .u32 x19 (IntKind.u32.wrap x24)) ti22 rfl rfl (aix_idx h_20) rfl rfl rfl))) <| OpsTo.nil <| Ex.inBlock_mk <| Ex.then_mk <| AB.rw <| wS (v := (eI .i64 (IntKind.i64.wrap (x12 + 1)))) (sv (d_bin rfl rfl (bin_add ..))) <| zm rfl <| zn ?_
      exact ⟨IntKind.i64.wrap (x12 + 1), l2_2.set (Int.toNat x9) (bits .or .u32 x19 (IntKind.u32.wrap x24)), hr6, (zG [0, 1, 2])⟩
    · replace hr6 := iteF hr6 h19
      refine AB.exit <| Ex.then_exit_mk <| Ex.then_exit_mk <| Ex.inBlock_same_mk ?_
      obtain rfl := Option.some.inj hr6
      refine Ex.inBlock_mk <| Ex.then_mk ?_
      exact hG5 _ _ _ _ (zG [0, 1, 2]) (J5 l2_2 hr4)
  · replace hr4 := iteF hr4 h18
    refine AB.exit <| Ex.then_exit_mk <| Ex.then_exit_mk <| Ex.inBlock_same_mk ?_
    obtain rfl := Option.some.inj hr4
    refine Ex.then_mk ?_
    exact hG1 _ _ _ _ (zG [1, 2]) (J1 l2 hr)
set_option maxRecDepth 20000 in
set_option maxHeartbeats 1000000 in
theorem sha_Compress_ok (N : Nat) (state : List Int) (block : List Int) (r : (List Int)) (hr : sha_Compress N state block = some r) :
    Vm.Fn Tryd.prog 50 [] [(.agg (state.map (eI .u32))), (.agg (block.map (eI .u8)))] (.agg (r.map (eI .u32))) [] := by
  refine fn_ab Tryd.func50 rfl (by kernel_rfl) Tryd.ntmps50 zl rfl (fr := [(0, (.agg (state.map (eI .u32)))), (1, (.agg (block.map (eI .u8))))]) rfl ?_
  unfold sha_Compress at hr
  refine zq <| wS (v := (.ptr 0 0)) (h' := [some ⟨70, state.map (eI .u32)⟩]) (sv (d_box rfl (flatA (fun _ => rfl)) rfl rfl)) <| wS (v := (.ptr 1 0)) (h' := [some ⟨70, state.map (eI .u32)⟩, some ⟨72, block.map (eI .u8)⟩]) (sv (d_box rfl (flatA (fun _ => rfl)) rfl rfl)) <| wS (v := (.ptr 2 0)) (h' := [some ⟨70, state.map (eI .u32)⟩, some ⟨72, block.map (eI .u8)⟩, some ⟨70, (List.replicate 8 0).map (eI .u32)⟩]) (sv (d_alloc ti70 rfl rfl rfl)) <| zn <| AB.seq ?_
  replace hr := bnd hr; obtain ⟨q, h_1, hr⟩ := hr
  replace hr := bnd hr; obtain ⟨x18, h_2, hr⟩ := hr
  replace hr := bnd hr; obtain ⟨q_1, h_3, hr⟩ := hr
  refine AB.rw <| wS (v := (.agg (block.map (eI .u8)))) (sv (d_load rfl (ldA (E := (eI .u8)) (l := block) ti72 rfl rfl (arr_len h_1)))) <| wC rfl (Vm.Fn.pure (sha_schedule_ok N block x18 h_2) zR zR) <| wS (v := (.ptr 3 0)) (h' := [some ⟨70, state.map (eI .u32)⟩, some ⟨72, block.map (eI .u8)⟩, some ⟨70, (List.replicate 8 0).map (eI .u32)⟩, some ⟨78, (List.replicate 64 0).map (eI .u32)⟩]) (sv (d_alloc ti78 rfl rfl rfl)) ?_
  refine wN (h' := [some ⟨70, state.map (eI .u32)⟩, some ⟨72, block.map (eI .u8)⟩, some ⟨70, (List.replicate 8 0).map (eI .u32)⟩, some ⟨78, x18.map (eI .u32)⟩]) (sv (d_store rfl rfl (stA (E := (eI .u32)) (l := List.replicate 64 0) ti78 rfl rfl (fun _ => rfl) rfl (arr_len h_3) rfl))) <| zn <| AB.seq ?_
  replace hr := bnd hr; obtain ⟨x19, h_4, hr⟩ := hr
  replace hr := bnd hr; obtain ⟨x21, h_5, hr⟩ := hr
  replace hr := bnd hr; obtain ⟨x23, h_6, hr⟩ := hr
  replace hr := bnd hr; obtain ⟨x25, h_7, hr⟩ := hr
  refine AB.rg E0 (fun _ => by show drawOk (fun _ => false) _ = true; decide +kernel) <| tS (v := (.ptr 0 (Int.toNat 0))) (sv (d_ia rfl rfl (iaB ti70 ti22 rfl h_4))) <| tS (v := (eI .u32 x19)) (sv (d_load rfl (ldX (E := (eI .u32)) (y := x19) ti22 rfl rfl (aix_idx h_4)))) <| tS (v := (.ptr 0 (Int.toNat 1))) (sv (d_ia rfl rfl (iaB ti70 ti22 rfl h_5))) <| tS (v := (eI .u32 x21)) (sv (d_load rfl (ldX (E := (eI .u32)) (y := x21) ti22 rfl rfl (aix_idx h_5)))) <| tS (v := (.ptr 0 (Int.toNat 2))) (sv (d_ia rfl rfl (iaB ti70 ti22 rfl h_6))) ?_
  refine tS (v := (eI .u32 x23)) (sv (d_load rfl (ldX (E := (eI .u32)) (y := x23) ti22 rfl rfl (aix_idx h_6)))) <| tS (v := (.ptr 0 (Int.toNat 3))) (sv (d_ia rfl rfl (iaB ti70 ti22 rfl h_7))) <| tS (v := (eI .u32 x25)) (sv (d_load rfl (ldX (E := (eI .u32)) (y := x25) ti22 rfl rfl (aix_idx h_7)))) <| tS (sv (d_assign rfl)) <| tS (sv (d_assign rfl)) <| tS (sv (d_assign rfl)) <| tS (sv (d_assign rfl)) <| OpsTo.nil <| Ex.then_mk <| AB.seq ?_
  replace hr := bnd hr; obtain ⟨x27, h_8, hr⟩ := hr
  replace hr := bnd hr; obtain ⟨x29, h_9, hr⟩ := hr
  replace hr := bnd hr; obtain ⟨x31, h_10, hr⟩ := hr
  replace hr := bnd hr; obtain ⟨x33, h_11, hr⟩ := hr
  refine AB.rg E0 (fun _ => by show drawOk (fun _ => false) _ = true; decide +kernel) <| tS (v := (.ptr 0 (Int.toNat 4))) (sv (d_ia rfl rfl (iaB ti70 ti22 rfl h_8))) <| tS (v := (eI .u32 x27)) (sv (d_load rfl (ldX (E := (eI .u32)) (y := x27) ti22 rfl rfl (aix_idx h_8)))) <| tS (v := (.ptr 0 (Int.toNat 5))) (sv (d_ia rfl rfl (iaB ti70 ti22 rfl h_9))) <| tS (v := (eI .u32 x29)) (sv (d_load rfl (ldX (E := (eI .u32)) (y := x29) ti22 rfl rfl (aix_idx h_9)))) <| tS (v := (.ptr 0 (Int.toNat 6))) (sv (d_ia rfl rfl (iaB ti70 ti22 rfl h_10))) ?_
  refine tS (v := (eI .u32 x31)) (sv (d_load rfl (ldX (E := (eI .u32)) (y := x31) ti22 rfl rfl (aix_idx h_10)))) <| tS (v := (.ptr 0 (Int.toNat 7))) (sv (d_ia rfl rfl (iaB ti70 ti22 rfl h_11))) <| tS (v := (eI .u32 x33)) (sv (d_load rfl (ldX (E := (eI .u32)) (y := x33) ti22 rfl rfl (aix_idx h_11)))) <| tS (sv (d_assign rfl)) <| tS (sv (d_assign rfl)) <| tS (sv (d_assign rfl)) <| tS (sv (d_assign rfl)) <| OpsTo.nil <| Ex.then_mk ?_
  refine AB.seq_g fun K1 hK1 hG1 => ?_
  have J1 : ∀ (va : Int) (b : Int) (c : Int) (d : Int) (ve : Int) (f : Int) (g : Int) (vh : Int), sha_Compress_J1 N state va b c d ve f g vh = some r → K1 (mkF 131 [(2, (.ptr 0 0)), (4, (.ptr 1 0)), (6, (eI .u32 va)), (7, (eI .u32 b)), (8, (eI .u32 c)), (9, (eI .u32 d)), (10, (eI .u32 ve)), (11, (eI .u32 f)), (12, (eI .u32 g)), (13, (eI .u32 vh))]) [some ⟨70, state.map (eI .u32)⟩, some ⟨70, (List.replicate 8 0).map (eI .u32)⟩] := by
    intro va b c d ve f g vh hr
    unfold sha_Compress_J1 at hr
    refine hK1 _ _ <| AB.seq ?_
    replace hr := bnd hr; obtain ⟨x98, h_12, hr⟩ := hr
    replace hr := bnd hr; obtain ⟨x102, h_13, hr⟩ := hr
    replace hr := bnd hr; obtain ⟨x106, h_14, hr⟩ := hr
    replace hr := bnd hr; obtain ⟨x110, h_15, hr⟩ := hr
    replace hr := bnd hr; obtain ⟨x114, h_16, hr⟩ := hr
    replace hr := bnd hr; obtain ⟨x118, h_17, hr⟩ := hr
    replace hr := bnd hr; obtain ⟨x122, h_18, hr⟩ := hr
    replace hr := bnd hr; obtain ⟨x126, h_19, hr⟩ := hr
    refine AB.rw <| wS (v := (.ptr 0 (Int.toNat 0))) (sv (d_ia rfl rfl (iaB ti70 ti22 rfl h_12))) <| wS (v := (eI .u32 x98)) (sv (d_load rfl (ldX (E := (eI .u32)) (y := x98) ti22 rfl rfl (aix_idx h_12)))) <| zm rfl <| wS (sv (d_bin rfl rfl (bin_add ..))) <| wS (v := (.ptr 0 (Int.toNat 1))) (sv (d_ia rfl rfl (iaB ti70 ti22 rfl h_13))) <| wS (v := (eI .u32 x102)) (sv (d_load rfl (ldX (E := (eI .u32)) (y := x102) ti22 rfl rfl (aix_idx h_13)))) <| zm rfl <| wS (sv (d_bin rfl rfl (bin_add ..))) <| wS (v := (.ptr 0 (Int.toNat 2))) (sv (d_ia rfl rfl (iaB ti70 ti22 rfl h_14))) ?_
    refine wS (v := (eI .u32 x106)) (sv (d_load rfl (ldX (E := (eI .u32)) (y := x106) ti22 rfl rfl (aix_idx h_14)))) <| zm rfl <| wS (sv (d_bin rfl rfl (bin_add ..))) <| wS (v := (.ptr 0 (Int.toNat 3))) (sv (d_ia rfl rfl (iaB ti70 ti22 rfl h_15))) <| wS (v := (eI .u32 x110)) (sv (d_load rfl (ldX (E := (eI .u32)) (y := x110) ti22 rfl rfl (aix_idx h_15)))) <| zm rfl <| wS (sv (d_bin rfl rfl (bin_add ..))) <| wS (v := (.ptr 0 (Int.toNat 4))) (sv (d_ia rfl rfl (iaB ti70 ti22 rfl h_16))) <| wS (v := (eI .u32 x114)) (sv (d_load rfl (ldX (E := (eI .u32)) (y := x114) ti22 rfl rfl (aix_idx h_16)))) <| zm rfl ?_
    refine wS (sv (d_bin rfl rfl (bin_add ..))) <| wS (v := (.ptr 0 (Int.toNat 5))) (sv (d_ia rfl rfl (iaB ti70 ti22 rfl h_17))) <| wS (v := (eI .u32 x118)) (sv (d_load rfl (ldX (E := (eI .u32)) (y := x118) ti22 rfl rfl (aix_idx h_17)))) <| zm rfl <| wS (sv (d_bin rfl rfl (bin_add ..))) <| wS (v := (.ptr 0 (Int.toNat 6))) (sv (d_ia rfl rfl (iaB ti70 ti22 rfl h_18))) <| wS (v := (eI .u32 x122)) (sv (d_load rfl (ldX (E := (eI .u32)) (y := x122) ti22 rfl rfl (aix_idx h_18)))) <| zm rfl <| wS (sv (d_bin rfl rfl (bin_add ..))) <| wS (v := (.ptr 0 (Int.toNat 7))) (sv (d_ia rfl rfl (iaB ti70 ti22 rfl h_19))) ?_
    refine wS (v := (eI .u32 x126)) (sv (d_load rfl (ldX (E := (eI .u32)) (y := x126) ti22 rfl rfl (aix_idx h_19)))) <| zm rfl <| wS (sv (d_bin rfl rfl (bin_add ..))) <| wS (v := (.agg ([IntKind.u32.wrap (x98 + va), IntKind.u32.wrap (x102 + b), IntKind.u32.wrap (x106 + c), IntKind.u32.wrap (x110 + d), IntKind.u32.wrap (x114 + ve), IntKind.u32.wrap (x118 + f), IntKind.u32.wrap (x122 + g), IntKind.u32.wrap (x126 + vh)].map (eI .u32)))) (sv (d_build rfl (bldA ti70 ti22 rfl))) ?_
    refine wN (h' := [some ⟨70, state.map (eI .u32)⟩, some ⟨70, [IntKind.u32.wrap (x98 + va), IntKind.u32.wrap (x102 + b), IntKind.u32.wrap (x106 + c), IntKind.u32.wrap (x110 + d), IntKind.u32.wrap (x114 + ve), IntKind.u32.wrap (x118 + f), IntKind.u32.wrap (x122 + g), IntKind.u32.wrap (x126 + vh)].map (eI .u32)⟩]) (sv (d_store rfl rfl (stA (E := (eI .u32)) (l := List.replicate 8 0) ti70 rfl rfl (fun _ => rfl) rfl rfl rfl))) <| zn <| AB.ret ?_
    obtain rfl := Option.some.inj hr
    exact done_ret (r1 := (.agg ([IntKind.u32.wrap (x98 + va), IntKind.u32.wrap (x102 + b), IntKind.u32.wrap (x106 + c), IntKind.u32.wrap (x110 + d), IntKind.u32.wrap (x114 + ve), IntKind.u32.wrap (x118 + f), IntKind.u32.wrap (x122 + g), IntKind.u32.wrap (x126 + vh)].map (eI .u32)))) (res1 Tryd.results50 (rvC rfl (ldA (E := (eI .u32)) (l := [IntKind.u32.wrap (x98 + va), IntKind.u32.wrap (x102 + b), IntKind.u32.wrap (x106 + c), IntKind.u32.wrap (x110 + d), IntKind.u32.wrap (x114 + ve), IntKind.u32.wrap (x118 + f), IntKind.u32.wrap (x122 + g), IntKind.u32.wrap (x126 + vh)]) ti70 rfl rfl rfl))) (zG [])
  refine zq <| wS (v := (eI .i64 0)) (sv (d_move rfl)) <| zn ?_
  replace hr := bnd hr; obtain ⟨res2, hL2, hr⟩ := hr
  refine AB.block ?_
  refine AB.loopN (fun m s h => ∃ (va_1 : Int) (b_1 : Int) (c_1 : Int) (d_1 : Int) (ve_1 : Int) (f_1 : Int) (g_1 : Int) (vh_1 : Int) (x35 : Int), sha_Compress_L2 N state x18 m va_1 b_1 c_1 d_1 ve_1 f_1 g_1 vh_1 x35 = some res2 ∧ Ghost 0 s h (mkF 131 [(2, (.ptr 0 0)), (4, (.ptr 1 0)), (5, (.ptr 2 0)), (6, (eI .u32 va_1)), (7, (eI .u32 b_1)), (8, (eI .u32 c_1)), (9, (eI .u32 d_1)), (10, (eI .u32 ve_1)), (11, (eI .u32 f_1)), (12, (eI .u32 g_1)), (13, (eI .u32 vh_1)), (35, (eI .i64 x35))]) [some ⟨70, state.map (eI .u32)⟩, some ⟨70, (List.replicate 8 0).map (eI .u32)⟩, some ⟨78, x18.map (eI .u32)⟩]) (n := N) ⟨x19, x21, x23, x25, x27, x29, x31, x33, 0, hL2, (zG [0, 2, 3])⟩ (by rintro s h ⟨_, _, _, _, _, _, _, _, _, h0, _⟩; simp [sha_Compress_L2] at h0) ?_
  rintro m2 s h ⟨va_1, b_1, c_1, d_1, ve_1, f_1, g_1, vh_1, x35, hr2, hg⟩
  refine AB.ghost hg ?_
  clear hg hL2
  rw [sha_Compress_L2] at hr2
  refine zq <| wS (v := (eB (decide (x35 < 64)))) (sv (d_bin rfl rfl (bin_lss ..))) <| zn <| AB.seq ?_
  refine AB.cnd rfl (fun h20 => ?_) (fun h20 => ?_)
  · replace hr2 := iteT hr2 h20
    refine AB.skip <| Ex.then_mk <| AB.seq <| AB.block <| zq <| zm rfl <| za rfl <| zn <| AB.seq ?_
    replace hr2 := bnd hr2; obtain ⟨x40, h_21, hr2⟩ := hr2
    replace hr2 := bnd hr2; obtain ⟨x42, h_23, hr2⟩ := hr2
    replace hr2 := bnd hr2; obtain ⟨x45, h_25, hr2⟩ := hr2
    replace hr2 := bnd hr2; obtain ⟨x58, h_27, hr2⟩ := hr2
    replace hr2 := bnd hr2; obtain ⟨x62, h_28, hr2⟩ := hr2
    refine AB.rd (memF [58]) (memF []) mixed <| DrawG.pick (n := 27) (i := 0) (by decide +kernel) rfl (gS (v := (eI .u32 vh_1)) (sv (d_move rfl))) <| DrawG.pick (n := 26) (i := 1) (by decide +kernel) rfl (gS (v := (eI .u32 ve_1)) (sv (d_move rfl))) ?_
    refine DrawG.pick (n := 25) (i := 2) (by decide +kernel) rfl (gC (v := (eI .u32 x40)) (h' := [some ⟨70, state.map (eI .u32)⟩, some ⟨70, (List.replicate 8 0).map (eI .u32)⟩, some ⟨78, x18.map (eI .u32)⟩]) (Vm.Fn.pure (sha_rotr_ok N ve_1 6 x40 h_21) rfl rfl) (fun _ => rfl) (fun h => absurd h (by decide)) (sv (d_call rfl orc1_hit))) ?_
    refine DrawG.pick (n := 24) (i := 3) (by decide +kernel) rfl (gS (v := (eI .u32 ve_1)) (sv (d_move rfl))) ?_
    refine DrawG.pick (n := 23) (i := 4) (by decide +kernel) rfl (gC (v := (eI .u32 x42)) (h' := [some ⟨70, state.map (eI .u32)⟩, some ⟨70, (List.replicate 8 0).map (eI .u32)⟩, some ⟨78, x18.map (eI .u32)⟩]) (Vm.Fn.pure (sha_rotr_ok N ve_1 11 x42 h_23) rfl rfl) (fun _ => rfl) (fun h => absurd h (by decide)) (sv (d_call rfl orc1_hit))) ?_
    refine DrawG.pick (n := 22) (i := 5) (by decide +kernel) rfl (gS (v := (eI .u32 (bits .xor .u32 x40 x42))) (sv (d_bin rfl rfl (bin_xor ..)))) <| DrawG.pick (n := 21) (i := 6) (by decide +kernel) rfl (gS (v := (eI .u32 ve_1)) (sv (d_move rfl))) ?_
    refine DrawG.pick (n := 20) (i := 7) (by decide +kernel) rfl (gC (v := (eI .u32 x45)) (h' := [some ⟨70, state.map (eI .u32)⟩, some ⟨70, (List.replicate 8 0).map (eI .u32)⟩, some ⟨78, x18.map (eI .u32)⟩]) (Vm.Fn.pure (sha_rotr_ok N ve_1 25 x45 h_25) rfl rfl) (fun _ => rfl) (fun h => absurd h (by decide)) (sv (d_call rfl orc1_hit))) ?_
    refine DrawG.pick (n := 19) (i := 8) (by decide +kernel) rfl (gS (v := (eI .u32 (bits .xor .u32 (bits .xor .u32 x40 x42) x45))) (sv (d_bin rfl rfl (bin_xor ..)))) <| DrawG.pick (n := 18) (i := 9) (by decide +kernel) rfl (gS (v := (eI .u32 (IntKind.u32.wrap (vh_1 + (bits .xor .u32 (bits .xor .u32 x40 x42) x45))))) (sv (d_bin rfl rfl (bin_add ..)))) <| DrawG.pick (n := 17) (i := 10) (by decide +kernel) rfl (gS (v := (eI .u32 ve_1)) (sv (d_move rfl))) <| DrawG.pick (n := 16) (i := 11) (by decide +kernel) rfl (gS (v := (eI .u32 f_1)) (sv (d_move rfl))) ?_
    refine DrawG.pick (n := 15) (i := 12) (by decide +kernel) rfl (gS (v := (eI .u32 (bits .and .u32 ve_1 f_1))) (sv (d_bin rfl rfl (bin_and ..)))) <| DrawG.pick (n := 14) (i := 13) (by decide +kernel) rfl (gS (v := (eI .u32 ve_1)) (sv (d_move rfl))) <| DrawG.pick (n := 13) (i := 14) (by decide +kernel) rfl (gS (v := (eI .u32 (bits .xor .u32 (IntKind.max .u32) ve_1))) (sv (d_un rfl (un_xorU rfl _)))) <| DrawG.pick (n := 12) (i := 15) (by decide +kernel) rfl (gS (v := (eI .u32 g_1)) (sv (d_move rfl))) ?_
    refine DrawG.pick (n := 11) (i := 16) (by decide +kernel) rfl (gS (v := (eI .u32 (bits .and .u32 (bits .xor .u32 (IntKind.max .u32) ve_1) g_1))) (sv (d_bin rfl rfl (bin_and ..)))) <| DrawG.pick (n := 10) (i := 17) (by decide +kernel) rfl (gS (v := (eI .u32 (bits .xor .u32 (bits .and .u32 ve_1 f_1) (bits .and .u32 (bits .xor .u32 (IntKind.max .u32) ve_1) g_1)))) (sv (d_bin rfl rfl (bin_xor ..)))) ?_
    refine DrawG.pick (n := 9) (i := 18) (by decide +kernel) rfl (gS (v := (eI .u32 (IntKind.u32.wrap ((IntKind.u32.wrap (vh_1 + (bits .xor .u32 (bits .xor .u32 x40 x42) x45))) + (bits .xor .u32 (bits .and .u32 ve_1 f_1) (bits .and .u32 (bits .xor .u32 (IntKind.max .u32) ve_1) g_1)))))) (sv (d_bin rfl rfl (bin_add ..)))) <| DrawG.pick (n := 8) (i := 19) (by decide +kernel) rfl (gS (v := (eI .i64 x35)) (sv (d_move rfl))) <| DrawG.pick (n := 7) (i := 20) (by decide +kernel) rfl (gS (v := (.eptr [(.agg (shaK.map (eI .u32)))] 0 (Int.toNat x35))) (sv (d_ia rfl rfl (iaG ti78 ti22 rfl h_27)))) ?_
    refine DrawG.pick (n := 6) (i := 21) (by decide +kernel) rfl (gS (v := (eI .u32 x58)) (sv (d_load rfl (ldG (E := (eI .u32)) (y := x58) ti22 rfl (aix_idx h_27))))) <| DrawG.pick (n := 5) (i := 22) (by decide +kernel) rfl (gS (v := (eI .u32 (IntKind.u32.wrap ((IntKind.u32.wrap ((IntKind.u32.wrap (vh_1 + (bits .xor .u32 (bits .xor .u32 x40 x42) x45))) + (bits .xor .u32 (bits .and .u32 ve_1 f_1) (bits .and .u32 (bits .xor .u32 (IntKind.max .u32) ve_1) g_1)))) + x58)))) (sv (d_bin rfl rfl (bin_add ..)))) <| DrawG.pick (n := 4) (i := 23) (by decide +kernel) rfl (gS (v := (eI .i64 x35)) (sv (d_move rfl))) ?_
    refine DrawG.pick (n := 3) (i := 24) (by decide +kernel) rfl (gS (v := (.ptr 2 (Int.toNat x35))) (sv (d_ia rfl rfl (iaB ti78 ti22 rfl h_28)))) <| DrawG.pick (n := 2) (i := 25) (by decide +kernel) rfl (gS (v := (eI .u32 x62)) (sv (d_load rfl (ldX (E := (eI .u32)) (y := x62) ti22 rfl rfl (aix_idx h_28))))) ?_
    refine DrawG.pick (n := 1) (i := 26) (by decide +kernel) rfl (gS (v := (eI .u32 (IntKind.u32.wrap ((IntKind.u32.wrap ((IntKind.u32.wrap ((IntKind.u32.wrap (vh_1 + (bits .xor .u32 (bits .xor .u32 x40 x42) x45))) + (bits .xor .u32 (bits .and .u32 ve_1 f_1) (bits .and .u32 (bits .xor .u32 (IntKind.max .u32) ve_1) g_1)))) + x58)) + x62)))) (sv (d_bin rfl rfl (bin_add ..)))) ?_
    refine DrawG.pick (n := 0) (i := 27) (by decide +kernel) rfl (gS (v := (eI .u32 (IntKind.u32.wrap ((IntKind.u32.wrap ((IntKind.u32.wrap ((IntKind.u32.wrap (vh_1 + (bits .xor .u32 (bits .xor .u32 x40 x42) x45))) + (bits .xor .u32 (bits .and .u32 ve_1 f_1) (bits .and .u32 (bits .xor .u32 (IntKind.max .u32) ve_1) g_1)))) + x58)) + x62)))) (sv (d_assign rfl))) <| DrawG.nil (by decide +kernel) <| Ex.then_mk <| AB.seq ?_
    replace hr2 := bnd hr2; obtain ⟨x66, h_29, hr2⟩ := hr2
    replace hr2 := bnd hr2; obtain ⟨x68, h_30, hr2⟩ := hr2
    replace hr2 := bnd hr2; obtain ⟨x71, h_31, hr2⟩ := hr2
    refine AB.rw <| zm rfl <| wC rfl (Vm.Fn.pure (sha_rotr_ok N va_1 2 x66 h_29) rfl rfl) <| zm rfl <| wC rfl (Vm.Fn.pure (sha_rotr_ok N va_1 13 x68 h_30) rfl rfl) <| wS (sv (d_bin rfl rfl (bin_xor ..))) <| zm rfl <| wC rfl (Vm.Fn.pure (sha_rotr_ok N va_1 22 x71 h_31) rfl rfl) <| wS (sv (d_bin rfl rfl (bin_xor ..))) <| zm rfl <| zm rfl <| wS (sv (d_bin rfl rfl (bin_and ..))) <| zm rfl <| zm rfl <| wS (sv (d_bin rfl rfl (bin_and ..))) <| wS (sv (d_bin rfl rfl (bin_xor ..))) <| zm rfl <| zm rfl <| wS (sv (d_bin rfl rfl (bin_and ..))) <| wS (sv (d_bin rfl rfl (bin_xor ..))) ?_
    refine wS (sv (d_bin rfl rfl (bin_add ..))) <| za rfl <| zn <| AB.rw <| zm rfl <| zm rfl <| wS (sv (d_bin rfl rfl (bin_add ..))) <| zm rfl <| zm rfl <| zm rfl <| zm rfl <| zm rfl <| wS (sv (d_bin rfl rfl (bin_add ..))) <| zm rfl <| zm rfl <| zm rfl <| za rfl <| za rfl <| za rfl <| za rfl <| za rfl <| za rfl <| za rfl <| za rfl <| OpsW.nil <| Ex.inBlock_mk <| Ex.then_mk <| AB.rw <| wS (v := (eI .i64 (IntKind.i64.wrap (x35 + 1)))) (sv (d_bin rfl rfl (bin_add ..))) <| zm rfl <| zn ?_
    exact ⟨IntKind.u32.wrap ((IntKind.u32.wrap ((IntKind.u32.wrap ((IntKind.u32.wrap ((IntKind.u32.wrap (vh_1 + (bits .xor .u32 (bits .xor .u32 x40 x42) x45))) + (bits .xor .u32 (bits .and .u32 ve_1 f_1) (bits .and .u32 (bits .xor .u32 (IntKind.max .u32) ve_1) g_1)))) + x58)) + x62)) + (IntKind.u32.wrap ((bits .xor .u32 (bits .xor .u32 x66 x68) x71) + (bits .xor .u32 (bits .xor .u32 (bits .and .u32 va_1 b_1) (bits .and .u32 va_1 c_1)) (bits .and .u32 b_1 c_1))))), va_1, b_1, c_1, IntKind.u32.wrap (d_1 + (IntKind.u32.wrap ((IntKind.u32.wrap ((IntKind.u32.wrap ((IntKind.u32.wrap (vh_1 + (bits .xor .u32 (bits .xor .u32 x40 x42) x45))) + (bits .xor .u32 (bits .and .u32 ve_1 f_1) (bits .and .u32 (bits .xor .u32 (IntKind.max .u32) ve_1) g_1)))) + x58)) + x62))), ve_1, f_1, g_1, IntKind.i64.wrap (x35 + 1), hr2, (zG [0, 1, 2])⟩
  · replace hr2 := iteF hr2 h20
    refine AB.exit <| Ex.then_exit_mk <| Ex.then_exit_mk <| Ex.inBlock_same_mk ?_
    obtain rfl := Option.some.inj hr2
    refine Ex.then_mk ?_
    exact hG1 _ _ _ _ (zG [0, 1]) (J1 va_1 b_1 c_1 d_1 ve_1 f_1 g_1 vh_1 hr)
end Go.Proofs.YtnoofjkaeidagaaDoor
