/- Texts of ours, joined: Wk2. -/
import Derived.Test.YtokmcbfnfmpemaaDoorQScriptJoins5
set_option linter.unusedVariables false
set_option linter.unusedSimpArgs false
namespace Go.Proofs.YtokmcbfnfmpemaaDoor
open Go Go.Vm
set_option maxRecDepth 20000 in
set_option maxHeartbeats 1000000 in
theorem wide_Mul_ok (N : Nat) (va : List Int) (b : List Int) (r : (List Int) × (List Int)) (hr : wide_Mul N va b = some r) :
    Vm.Fn Tryd.prog 65 [] [(.agg (va.map (eI .u64))), (.agg (b.map (eI .u64)))] (.tup [(.agg (r.1.map (eI .u64))), (.agg (r.2.map (eI .u64)))]) [] := by
  refine fn_ab Tryd.func65 rfl (by kernel_rfl) Tryd.ntmps65 zl rfl (fr := [(0, (.agg (va.map (eI .u64)))), (1, (.agg (b.map (eI .u64))))]) rfl ?_
  unfold wide_Mul at hr
  refine zq <| wS (v := (.ptr 0 0)) (h' := [some ⟨84, va.map (eI .u64)⟩]) (sv (d_box rfl (flatA (fun _ => rfl)) rfl rfl)) <| wS (v := (.ptr 1 0)) (h' := [some ⟨84, va.map (eI .u64)⟩, some ⟨84, b.map (eI .u64)⟩]) (sv (d_box rfl (flatA (fun _ => rfl)) rfl rfl)) <| wS (v := (.ptr 2 0)) (h' := [some ⟨84, va.map (eI .u64)⟩, some ⟨84, b.map (eI .u64)⟩, some ⟨84, (List.replicate 4 0).map (eI .u64)⟩]) (sv (d_alloc ti84 rfl rfl rfl)) ?_
  refine wS (v := (.ptr 3 0)) (h' := [some ⟨84, va.map (eI .u64)⟩, some ⟨84, b.map (eI .u64)⟩, some ⟨84, (List.replicate 4 0).map (eI .u64)⟩, some ⟨84, (List.replicate 4 0).map (eI .u64)⟩]) (sv (d_alloc ti84 rfl rfl rfl)) <| zn <| zq <| wS (v := (.ptr 4 0)) (h' := [some ⟨84, va.map (eI .u64)⟩, some ⟨84, b.map (eI .u64)⟩, some ⟨84, (List.replicate 4 0).map (eI .u64)⟩, some ⟨84, (List.replicate 4 0).map (eI .u64)⟩, some ⟨113, (List.replicate 8 0).map (eI .u64)⟩]) (sv (d_alloc ti113 rfl rfl rfl)) <| zn ?_
  refine AB.seq_g fun K1 hK1 hG1 => ?_
  have J1 : ∀ (l2 : List Int), wide_Mul_J1 N l2 = some r → K1 (mkF 69 [(4, (.ptr 0 0)), (5, (.ptr 1 0)), (6, (.ptr 2 0))]) [some ⟨84, (List.replicate 4 0).map (eI .u64)⟩, some ⟨84, (List.replicate 4 0).map (eI .u64)⟩, some ⟨113, l2.map (eI .u64)⟩] := by
    intro l2 hr
    unfold wide_Mul_J1 at hr
    refine hK1 _ _ ?_
    refine AB.seq_g fun K2 hK2 hG2 => ?_
    have J2 : ∀ (l0 : List Int) (l1 : List Int), wide_Mul_J2 N l0 l1 = some r → K2 (mkF 69 [(4, (.ptr 0 0)), (5, (.ptr 1 0))]) [some ⟨84, l0.map (eI .u64)⟩, some ⟨84, l1.map (eI .u64)⟩] := by
      intro l0 l1 hr
      unfold wide_Mul_J2 at hr
      refine hK2 _ _ <| AB.ret ?_
      replace hr := bnd hr; obtain ⟨q_1, h_2, hr⟩ := hr
      replace hr := bnd hr; obtain ⟨q, h_1, hr⟩ := hr
      obtain rfl := Option.some.inj hr
      exact done_ret (r1 := (.tup [(.agg (l0.map (eI .u64))), (.agg (l1.map (eI .u64)))])) (res2 Tryd.results65 (rvC rfl (ldA (E := (eI .u64)) (l := l0) ti84 rfl rfl (arr_len h_1))) (rvC rfl (ldA (E := (eI .u64)) (l := l1) ti84 rfl rfl (arr_len h_2)))) (Ghost.rn [] rfl rfl (FLe.le rfl (V.le_tup (V.les_cons (V.le_arr (fun _ => rfl)) (V.les_cons (V.le_arr (fun _ => rfl)) V.les_nil))) FLe.nil) HLe.nil rfl)
    replace hr := bnd hr; obtain ⟨q_2, h_3, hr⟩ := hr
    replace hr := bnd hr; obtain ⟨x63, h_4, hr⟩ := hr
    replace hr := bnd hr; obtain ⟨x64, h_5, hr⟩ := hr
    replace hr := bnd hr; obtain ⟨x66, h_6, hr⟩ := hr
    replace hr := bnd hr; obtain ⟨x67, h_7, hr⟩ := hr
    refine AB.rd (memF []) (memF []) mixed <| DrawG.pick (n := 7) (i := 0) (by decide +kernel) rfl (gS (v := (.sl 2 (Int.toNat 4 * 1) x63.length 1 false)) (sv (d_slice rfl rfl rfl (slAS (E := (eI .u64)) (l := l2) ti113 ti75 rfl rfl rfl (arr_len h_3) zl rfl rfl h_4)))) <| DrawG.pick (n := 6) (i := 1) (by decide +kernel) rfl (gS (v := (.ptr 2 (Int.toNat 4 * 1))) (sv (d_sap rfl (apS ti84 zl rfl h_5)))) <| DrawG.pick (n := 5) (i := 2) (by decide +kernel) rfl (gS (v := (.agg (x64.map (eI .u64)))) (sv (d_load rfl (ldPA (E := (eI .u64)) (l := l2) ti84 rfl rfl h_4 h_5)))) ?_
    refine DrawG.fork (n := 4) [3, 6] (by decide +kernel) (by decide) ?_
    refine (Fork.cons rfl (gS (v := (.sl 2 (Int.toNat 0 * 1) x66.length 1 false)) (sv (d_slice rfl rfl rfl (slAS (E := (eI .u64)) (l := l2) ti113 ti75 rfl rfl rfl (arr_len h_3) zl rfl rfl h_6)))) ?_ (Fork.cons rfl (gN (h' := [some ⟨84, x64.map (eI .u64)⟩, some ⟨84, (List.replicate 4 0).map (eI .u64)⟩, some ⟨113, l2.map (eI .u64)⟩]) (sv (d_store rfl rfl (stA (E := (eI .u64)) (l := List.replicate 4 0) ti84 rfl rfl (fun _ => rfl) rfl (arp_len h_5) rfl)))) ?_ Fork.nil))
    · refine DrawG.pick (n := 3) (i := 4) (by decide +kernel) rfl (gS (v := (.ptr 2 (Int.toNat 0 * 1))) (sv (d_sap rfl (apS ti84 zl rfl h_7)))) <| DrawG.fork (n := 2) [5, 6] (by decide +kernel) (by decide) ?_
      refine (Fork.cons rfl (gS (v := (.agg (x67.map (eI .u64)))) (sv (d_load rfl (ldPA (E := (eI .u64)) (l := l2) ti84 rfl rfl h_6 h_7)))) ?_ (Fork.cons rfl (gN (h' := [some ⟨84, x64.map (eI .u64)⟩, some ⟨84, (List.replicate 4 0).map (eI .u64)⟩, some ⟨113, l2.map (eI .u64)⟩]) (sv (d_store rfl rfl (stA (E := (eI .u64)) (l := List.replicate 4 0) ti84 rfl rfl (fun _ => rfl) rfl (arp_len h_5) rfl)))) ?_ Fork.nil))
      · refine DrawG.pick (n := 1) (i := 6) (by decide +kernel) rfl (gN (h' := [some ⟨84, x64.map (eI .u64)⟩, some ⟨84, (List.replicate 4 0).map (eI .u64)⟩, some ⟨113, l2.map (eI .u64)⟩]) (sv (d_store rfl rfl (stA (E := (eI .u64)) (l := List.replicate 4 0) ti84 rfl rfl (fun _ => rfl) rfl (arp_len h_5) rfl)))) <| DrawG.pick (n := 0) (i := 7) (by decide +kernel) rfl (gN (h' := [some ⟨84, x64.map (eI .u64)⟩, some ⟨84, x67.map (eI .u64)⟩, some ⟨113, l2.map (eI .u64)⟩]) (sv (d_store rfl rfl (stA (E := (eI .u64)) (l := List.replicate 4 0) ti84 rfl rfl (fun _ => rfl) rfl (arp_len h_7) rfl)))) ?_
        refine DrawG.nil (by decide +kernel) <| Ex.then_mk ?_
        exact hG2 _ _ _ _ (zG [0, 1]) (J2 x64 x67 hr)
      · refine DrawG.pick (n := 1) (i := 5) (by decide +kernel) rfl (gS (v := (.agg (x67.map (eI .u64)))) (sv (d_load rfl (ldPA (E := (eI .u64)) (l := l2) ti84 rfl rfl h_6 h_7)))) <| DrawG.pick (n := 0) (i := 7) (by decide +kernel) rfl (gN (h' := [some ⟨84, x64.map (eI .u64)⟩, some ⟨84, x67.map (eI .u64)⟩, some ⟨113, l2.map (eI .u64)⟩]) (sv (d_store rfl rfl (stA (E := (eI .u64)) (l := List.replicate 4 0) ti84 rfl rfl (fun _ => rfl) rfl (arp_len h_7) rfl)))) <| DrawG.nil (by decide +kernel) <| Ex.then_mk ?_
        exact hG2 _ _ _ _ (zG [0, 1]) (J2 x64 x67 hr)
    · refine DrawG.pick (n := 3) (i := 3) (by decide +kernel) rfl (gS (v := (.sl 2 (Int.toNat 0 * 1) x66.length 1 false)) (sv (d_slice rfl rfl rfl (slAS (E := (eI .u64)) (l := l2) ti113 ti75 rfl rfl rfl (arr_len h_3) zl rfl rfl h_6)))) <| DrawG.pick (n := 2) (i := 4) (by decide +kernel) rfl (gS (v := (.ptr 2 (Int.toNat 0 * 1))) (sv (d_sap rfl (apS ti84 zl rfl h_7)))) <| DrawG.pick (n := 1) (i := 5) (by decide +kernel) rfl (gS (v := (.agg (x67.map (eI .u64)))) (sv (d_load rfl (ldPA (E := (eI .u64)) (l := l2) ti84 rfl rfl h_6 h_7)))) ?_
      refine DrawG.pick (n := 0) (i := 7) (by decide +kernel) rfl (gN (h' := [some ⟨84, x64.map (eI .u64)⟩, some ⟨84, x67.map (eI .u64)⟩, some ⟨113, l2.map (eI .u64)⟩]) (sv (d_store rfl rfl (stA (E := (eI .u64)) (l := List.replicate 4 0) ti84 rfl rfl (fun _ => rfl) rfl (arp_len h_7) rfl)))) <| DrawG.nil (by decide +kernel) <| Ex.then_mk ?_
      exact hG2 _ _ _ _ (zG [0, 1]) (J2 x64 x67 hr)
  refine zq <| wS (v := (eI .i64 0)) (sv (d_move rfl)) <| zn ?_
  replace hr := bnd hr; obtain ⟨res3, hL3, hr⟩ := hr
  refine AB.block <| AB.loopN (fun m s h => ∃ (x14 : Int) (l4 : List Int), wide_Mul_L3 N va b m x14 l4 = some res3 ∧ Ghost 0 s h (mkF 69 [(2, (.ptr 0 0)), (3, (.ptr 1 0)), (4, (.ptr 2 0)), (5, (.ptr 3 0)), (6, (.ptr 4 0)), (14, (eI .i64 x14))]) [some ⟨84, va.map (eI .u64)⟩, some ⟨84, b.map (eI .u64)⟩, some ⟨84, (List.replicate 4 0).map (eI .u64)⟩, some ⟨84, (List.replicate 4 0).map (eI .u64)⟩, some ⟨113, l4.map (eI .u64)⟩]) (n := N) ⟨0, List.replicate 8 0, hL3, (zG [0, 1, 2, 3, 4])⟩ (by rintro s h ⟨_, _, h0, _⟩; simp [wide_Mul_L3] at h0) ?_
  rintro m3 s h ⟨x14, l4, hr3, hg⟩
  refine AB.ghost hg ?_
  clear hg hL3
  rw [wide_Mul_L3] at hr3
  refine zq <| wS (v := (eB (decide (x14 < 4)))) (sv (d_bin rfl rfl (bin_lss ..))) <| zn <| AB.seq ?_
  refine AB.cnd rfl (fun h8 => ?_) (fun h8 => ?_)
  · replace hr3 := iteT hr3 h8
    refine AB.skip <| Ex.then_mk ?_
    refine AB.seq_g fun K4 hK4 hG4 => ?_
    have J4 : ∀ (l4_1 : List Int), wide_Mul_J4 N va b x14 (wide_Mul_L3 N va b m3) l4_1 = some res3 → K4 (mkF 69 [(2, (.ptr 0 0)), (3, (.ptr 1 0)), (4, (.ptr 2 0)), (5, (.ptr 3 0)), (6, (.ptr 4 0)), (14, (eI .i64 x14))]) [some ⟨84, va.map (eI .u64)⟩, some ⟨84, b.map (eI .u64)⟩, some ⟨84, (List.replicate 4 0).map (eI .u64)⟩, some ⟨84, (List.replicate 4 0).map (eI .u64)⟩, some ⟨113, l4_1.map (eI .u64)⟩] := by
      intro l4_1 hr3
      unfold wide_Mul_J4 at hr3
      refine hK4 _ _ <| AB.rw <| wS (v := (eI .i64 (IntKind.i64.wrap (x14 + 1)))) (sv (d_bin rfl rfl (bin_add ..))) <| zm rfl <| zn ?_
      exact ⟨IntKind.i64.wrap (x14 + 1), l4_1, hr3, (zG [0, 1, 2, 3, 4])⟩
    refine AB.block <| zq <| zm rfl <| za rfl <| zn <| zq <| wS (v := (eI .u64 0)) (sv (d_assign rfl)) <| zn ?_
    refine AB.seq_g fun K5 hK5 hG5 => ?_
    have J5 : ∀ (carry : Int) (l4_2 : List Int), wide_Mul_J5 N va b x14 (wide_Mul_L3 N va b m3) carry l4_2 = some res3 → K5 (mkF 69 [(2, (.ptr 0 0)), (3, (.ptr 1 0)), (4, (.ptr 2 0)), (5, (.ptr 3 0)), (6, (.ptr 4 0)), (7, (eI .i64 x14)), (8, (eI .u64 carry)), (14, (eI .i64 x14))]) [some ⟨84, va.map (eI .u64)⟩, some ⟨84, b.map (eI .u64)⟩, some ⟨84, (List.replicate 4 0).map (eI .u64)⟩, some ⟨84, (List.replicate 4 0).map (eI .u64)⟩, some ⟨113, l4_2.map (eI .u64)⟩] := by
      intro carry l4_2 hr3
      unfold wide_Mul_J5 at hr3
      refine hK5 _ _ ?_
      replace hr3 := bnd hr3; obtain ⟨x61, h_9, hr3⟩ := hr3
      refine AB.rw <| zm rfl <| wS (v := (eI .i64 (IntKind.i64.wrap (x14 + 4)))) (sv (d_bin rfl rfl (bin_add ..))) <| zm rfl <| wS (v := (.ptr 4 (Int.toNat (IntKind.i64.wrap (x14 + 4))))) (sv (d_ia rfl rfl (iaB ti113 ti75 rfl h_9))) <| wN (h' := [some ⟨84, va.map (eI .u64)⟩, some ⟨84, b.map (eI .u64)⟩, some ⟨84, (List.replicate 4 0).map (eI .u64)⟩, some ⟨84, (List.replicate 4 0).map (eI .u64)⟩, some ⟨113, (l4_2.set (Int.toNat (IntKind.i64.wrap (x14 + 4))) carry).map (eI .u64)⟩]) (sv (d_store rfl rfl (stXe (E := (eI .u64)) (y := carry) ti75 rfl rfl (aix_idx h_9) rfl rfl rfl))) <| OpsW.nil <| Ex.inBlock_mk ?_
      refine Ex.then_mk ?_
      exact hG4 _ _ _ _ (zG [0, 1, 2, 3, 4]) (J4 (l4_2.set (Int.toNat (IntKind.i64.wrap (x14 + 4))) carry) hr3)
    refine zq <| wS (v := (eI .i64 0)) (sv (d_move rfl)) <| zn ?_
    replace hr3 := bnd hr3; obtain ⟨res6, hL6, hr3⟩ := hr3
    refine AB.block ?_
    refine AB.loopN (fun m s h => ∃ (carry_1 : Int) (x17 : Int) (l4_3 : List Int), wide_Mul_L6 N va b x14 m carry_1 x17 l4_3 = some res6 ∧ Ghost 0 s h (mkF 69 [(2, (.ptr 0 0)), (3, (.ptr 1 0)), (4, (.ptr 2 0)), (5, (.ptr 3 0)), (6, (.ptr 4 0)), (7, (eI .i64 x14)), (8, (eI .u64 carry_1)), (14, (eI .i64 x14)), (17, (eI .i64 x17))]) [some ⟨84, va.map (eI .u64)⟩, some ⟨84, b.map (eI .u64)⟩, some ⟨84, (List.replicate 4 0).map (eI .u64)⟩, some ⟨84, (List.replicate 4 0).map (eI .u64)⟩, some ⟨113, l4_3.map (eI .u64)⟩]) (n := N) ⟨0, 0, l4, hL6, (zG [0, 1, 2, 3, 4])⟩ (by rintro s h ⟨_, _, _, h0, _⟩; simp [wide_Mul_L6] at h0) ?_
    rintro m6 s h ⟨carry_1, x17, l4_3, hr6, hg⟩
    refine AB.ghost hg ?_
    clear hg hL6
    rw [wide_Mul_L6] at hr6
    refine zq <| wS (v := (eB (decide (x17 < 4)))) (sv (d_bin rfl rfl (bin_lss ..))) <| zn <| AB.seq ?_
    refine AB.cnd rfl (fun h10 => ?_) (fun h10 => ?_)
    · replace hr6 := iteT hr6 h10
      refine AB.skip <| Ex.then_mk <| AB.seq <| AB.block <| zq <| zm rfl <| za rfl <| zn <| AB.seq ?_
      replace hr6 := bnd hr6; obtain ⟨x22, h_11, hr6⟩ := hr6
      replace hr6 := bnd hr6; obtain ⟨x25, h_12, hr6⟩ := hr6
      replace hr6 := bnd hr6; obtain ⟨x27, h_13, hr6⟩ := hr6
      have hc14 : Vm.Fn Tryd.prog 70 [some ⟨84, va.map (eI .u64)⟩, some ⟨84, b.map (eI .u64)⟩, some ⟨84, (List.replicate 4 0).map (eI .u64)⟩, some ⟨84, (List.replicate 4 0).map (eI .u64)⟩, some ⟨113, l4_3.map (eI .u64)⟩] [(eI .u64 x22), (eI .u64 x25)] (.tup [(eI .u64 x27.1), (eI .u64 x27.2)]) [some ⟨84, va.map (eI .u64)⟩, some ⟨84, b.map (eI .u64)⟩, some ⟨84, (List.replicate 4 0).map (eI .u64)⟩, some ⟨84, (List.replicate 4 0).map (eI .u64)⟩, some ⟨113, l4_3.map (eI .u64)⟩] := (Vm.Fn.pure (math_bits_Mul64_ok N x22 x25 x27 h_13) rfl rfl)
      refine AB.rg (Env.one mixed hc14 allF (fun _ _ => rfl)) (fun _ => by show drawOk allF _ = true; decide +kernel) <| tS (sv (d_move rfl)) <| tS (v := (.ptr 0 (Int.toNat x14))) (sv (d_ia rfl rfl (iaB ti84 ti75 rfl h_11))) <| tS (v := (eI .u64 x22)) (sv (d_load rfl (ldX (E := (eI .u64)) (y := x22) ti75 rfl rfl (aix_idx h_11)))) <| tS (sv (d_move rfl)) <| tS (v := (.ptr 1 (Int.toNat x17))) (sv (d_ia rfl rfl (iaB ti84 ti75 rfl h_12))) <| tS (v := (eI .u64 x25)) (sv (d_load rfl (ldX (E := (eI .u64)) (y := x25) ti75 rfl rfl (aix_idx h_12)))) ?_
      refine tS (v := (.tup [(eI .u64 x27.1), (eI .u64 x27.2)])) (h' := [some ⟨84, va.map (eI .u64)⟩, some ⟨84, b.map (eI .u64)⟩, some ⟨84, (List.replicate 4 0).map (eI .u64)⟩, some ⟨84, (List.replicate 4 0).map (eI .u64)⟩, some ⟨113, l4_3.map (eI .u64)⟩]) (sv (d_call rfl Env.one_O)) <| tS (sv (d_move rfl)) <| tS (v := (eI .u64 x27.1)) (sv (d_ext rfl rfl)) <| tS (v := (eI .u64 x27.2)) (sv (d_ext rfl rfl)) <| tS (sv (d_assign rfl)) <| tS (sv (d_assign rfl)) <| OpsTo.nil <| Ex.then_mk <| AB.seq ?_
      replace hr6 := bnd hr6; obtain ⟨x35, h_15, hr6⟩ := hr6
      replace hr6 := bnd hr6; obtain ⟨x37, h_16, hr6⟩ := hr6
      refine AB.rw <| zm rfl <| zm rfl <| zm rfl <| wS (sv (d_bin rfl rfl (bin_add ..))) <| wS (v := (.ptr 4 (Int.toNat (IntKind.i64.wrap (x14 + x17))))) (sv (d_ia rfl rfl (iaB ti113 ti75 rfl h_15))) <| wS (v := (eI .u64 x35)) (sv (d_load rfl (ldX (E := (eI .u64)) (y := x35) ti75 rfl rfl (aix_idx h_15)))) <| wC rfl (Vm.Fn.pure (math_bits_Add64_ok N x27.2 x35 0 x37 h_16) rfl rfl) <| zm rfl <| wS (v := (eI .u64 x37.1)) (sv (d_ext rfl rfl)) <| wS (v := (eI .u64 x37.2)) (sv (d_ext rfl rfl)) <| za rfl <| za rfl <| zn <| zq <| zm rfl <| zm rfl <| wS (sv (d_bin rfl rfl (bin_add ..))) <| za rfl <| zn <| AB.seq ?_
      replace hr6 := bnd hr6; obtain ⟨x46, h_17, hr6⟩ := hr6
      refine AB.rw <| zm rfl <| zm rfl <| wC rfl (Vm.Fn.pure (math_bits_Add64_ok N x37.1 carry_1 0 x46 h_17) rfl rfl) <| zm rfl <| wS (v := (eI .u64 x46.1)) (sv (d_ext rfl rfl)) <| wS (v := (eI .u64 x46.2)) (sv (d_ext rfl rfl)) <| za rfl <| za rfl <| zn <| AB.rw <| zm rfl <| zm rfl <| wS (sv (d_bin rfl rfl (bin_add ..))) <| zm rfl <| zm rfl <| zm rfl <| wS (sv (d_bin rfl rfl (bin_add ..))) <| wS (v := (.ptr 4 (Int.toNat (IntKind.i64.wrap (x14 + x17))))) (sv (d_ia rfl rfl (iaB ti113 ti75 rfl h_15))) ?_
      refine wN (h' := [some ⟨84, va.map (eI .u64)⟩, some ⟨84, b.map (eI .u64)⟩, some ⟨84, (List.replicate 4 0).map (eI .u64)⟩, some ⟨84, (List.replicate 4 0).map (eI .u64)⟩, some ⟨113, (l4_3.set (Int.toNat (IntKind.i64.wrap (x14 + x17))) x46.1).map (eI .u64)⟩]) (sv (d_store rfl rfl (stXe (E := (eI .u64)) (y := x46.1) ti75 rfl rfl (aix_idx h_15) rfl rfl rfl))) <| za rfl <| OpsW.nil <| Ex.inBlock_mk <| Ex.then_mk <| AB.rw <| wS (v := (eI .i64 (IntKind.i64.wrap (x17 + 1)))) (sv (d_bin rfl rfl (bin_add ..))) <| zm rfl <| zn ?_
      exact ⟨IntKind.u64.wrap ((IntKind.u64.wrap (x27.1 + x37.2)) + x46.2), IntKind.i64.wrap (x17 + 1), l4_3.set (Int.toNat (IntKind.i64.wrap (x14 + x17))) x46.1, hr6, (zG [0, 1, 2, 3, 4])⟩
    · replace hr6 := iteF hr6 h10
      refine AB.exit <| Ex.then_exit_mk <| Ex.then_exit_mk <| Ex.inBlock_same_mk ?_
      obtain rfl := Option.some.inj hr6
      refine Ex.then_mk ?_
      exact hG5 _ _ _ _ (zG [0, 1, 2, 3, 4]) (J5 carry_1 l4_3 hr3)
  · replace hr3 := iteF hr3 h8
    refine AB.exit <| Ex.then_exit_mk <| Ex.then_exit_mk <| Ex.inBlock_same_mk ?_
    obtain rfl := Option.some.inj hr3
    refine Ex.then_mk ?_
    exact hG1 _ _ _ _ (zG [2, 3, 4]) (J1 l4 hr)
set_option maxRecDepth 20000 in
set_option maxHeartbeats 1000000 in
theorem wide_double_ok (N : Nat) (va : List Int) (low : Int) (r : (List Int) × Int) (hr : wide_double N va low = some r) :
    Vm.Fn Tryd.prog 72 [] [(.agg (va.map (eI .u64))), (eI .u64 low)] (.tup [(.agg (r.1.map (eI .u64))), (eI .u64 r.2)]) [] := by
  refine fn_ab Tryd.func72 rfl (by kernel_rfl) Tryd.ntmps72 zl rfl (fr := [(0, (.agg (va.map (eI .u64)))), (1, (eI .u64 low))]) rfl ?_
  unfold wide_double at hr
  refine zq <| wS (v := (.ptr 0 0)) (h' := [some ⟨84, va.map (eI .u64)⟩]) (sv (d_box rfl (flatA (fun _ => rfl)) rfl rfl)) <| wS (v := (.ptr 1 0)) (h' := [some ⟨84, va.map (eI .u64)⟩, some ⟨84, (List.replicate 4 0).map (eI .u64)⟩]) (sv (d_alloc ti84 rfl rfl rfl)) <| wS (v := (eI .u64 0)) (sv (d_assign rfl)) <| zn ?_
  refine AB.seq_g fun K1 hK1 hG1 => ?_
  have J1 : ∀ (low_1 : Int) (l0 : List Int), wide_double_J1 N low_1 l0 = some r → K1 (mkF 25 [(1, (eI .u64 low_1)), (2, (.ptr 0 0)), (4, (.ptr 1 0))]) [some ⟨84, l0.map (eI .u64)⟩, some ⟨84, (List.replicate 4 0).map (eI .u64)⟩] := by
    intro low_1 l0 hr
    unfold wide_double_J1 at hr
    refine hK1 _ _ <| AB.seq ?_
    replace hr := bnd hr; obtain ⟨q, h_1, hr⟩ := hr
    refine AB.rw <| wS (v := (.agg (l0.map (eI .u64)))) (sv (d_load rfl (ldA (E := (eI .u64)) (l := l0) ti84 rfl rfl (arr_len h_1)))) <| zm rfl <| wN (h' := [some ⟨84, l0.map (eI .u64)⟩, some ⟨84, l0.map (eI .u64)⟩]) (sv (d_store rfl rfl (stA (E := (eI .u64)) (l := List.replicate 4 0) ti84 rfl rfl (fun _ => rfl) rfl (arr_len h_1) rfl))) <| za rfl <| zn <| AB.ret ?_
    obtain rfl := Option.some.inj hr
    exact done_ret (r1 := (.tup [(.agg (l0.map (eI .u64))), (eI .u64 low_1)])) (res2 Tryd.results72 (rvC rfl (ldA (E := (eI .u64)) (l := l0) ti84 rfl rfl (arr_len h_1))) (rvT rfl)) (Ghost.rn [] rfl rfl (FLe.le rfl (V.le_tup (V.les_cons (V.le_arr (fun _ => rfl)) (V.les_cons (V.le_refl _ _) V.les_nil))) FLe.nil) HLe.nil rfl)
  refine zq <| wS (v := (eI .i64 0)) (sv (d_move rfl)) <| zn ?_
  replace hr := bnd hr; obtain ⟨res2, hL2, hr⟩ := hr
  refine AB.block <| AB.loopN (fun m s h => ∃ (low_2 : Int) (x7 : Int) (l0_1 : List Int), wide_double_L2 N m low_2 x7 l0_1 = some res2 ∧ Ghost 0 s h (mkF 25 [(1, (eI .u64 low_2)), (2, (.ptr 0 0)), (4, (.ptr 1 0)), (7, (eI .i64 x7))]) [some ⟨84, l0_1.map (eI .u64)⟩, some ⟨84, (List.replicate 4 0).map (eI .u64)⟩]) (n := N) ⟨low, 0, va, hL2, (zG [0, 1])⟩ (by rintro s h ⟨_, _, _, h0, _⟩; simp [wide_double_L2] at h0) ?_
  rintro m2 s h ⟨low_2, x7, l0_1, hr2, hg⟩
  refine AB.ghost hg ?_
  clear hg hL2
  rw [wide_double_L2] at hr2
  refine zq <| wS (v := (eB (decide (x7 < 4)))) (sv (d_bin rfl rfl (bin_lss ..))) <| zn <| AB.seq ?_
  refine AB.cnd rfl (fun h2 => ?_) (fun h2 => ?_)
  · replace hr2 := iteT hr2 h2
    refine AB.skip <| Ex.then_mk <| AB.seq <| AB.block <| zq <| zm rfl <| za rfl <| zn ?_
    replace hr2 := bnd hr2; obtain ⟨x12, h_3, hr2⟩ := hr2
    replace hr2 := bnd hr2; obtain ⟨x14, h_4, hr2⟩ := hr2
    replace hr2 := bnd hr2; obtain ⟨x20, h_5, hr2⟩ := hr2
    refine AB.rd (memF []) (memF []) mixed <| DrawG.pick (n := 13) (i := 0) (by decide +kernel) rfl (gS (v := (eI .i64 x7)) (sv (d_move rfl))) <| DrawG.pick (n := 12) (i := 1) (by decide +kernel) rfl (gS (v := (eI .i64 x7)) (sv (d_move rfl))) <| DrawG.pick (n := 11) (i := 2) (by decide +kernel) rfl (gS (v := (.ptr 0 (Int.toNat x7))) (sv (d_ia rfl rfl (iaB ti84 ti75 rfl h_3)))) <| DrawG.pick (n := 10) (i := 3) (by decide +kernel) rfl (gS (v := (eI .u64 x12)) (sv (d_load rfl (ldX (E := (eI .u64)) (y := x12) ti75 rfl rfl (aix_idx h_3))))) ?_
    refine DrawG.pick (n := 9) (i := 4) (by decide +kernel) rfl (gS (v := (eI .u64 x14)) (sv (d_bin rfl rfl (bin_shl' _ _ _ _ h_4)))) <| DrawG.pick (n := 8) (i := 5) (by decide +kernel) rfl (gS (v := (eI .u64 low_2)) (sv (d_move rfl))) <| DrawG.pick (n := 7) (i := 6) (by decide +kernel) rfl (gS (v := (eI .u64 (bits .or .u64 x14 low_2))) (sv (d_bin rfl rfl (bin_or ..)))) <| DrawG.pick (n := 6) (i := 7) (by decide +kernel) rfl (gS (v := (eI .i64 x7)) (sv (d_move rfl))) <| DrawG.pick (n := 5) (i := 8) (by decide +kernel) rfl (gS (v := (.ptr 0 (Int.toNat x7))) (sv (d_ia rfl rfl (iaB ti84 ti75 rfl h_3)))) ?_
    refine DrawG.pick (n := 4) (i := 9) (by decide +kernel) rfl (gS (v := (eI .u64 x12)) (sv (d_load rfl (ldX (E := (eI .u64)) (y := x12) ti75 rfl rfl (aix_idx h_3))))) <| DrawG.pick (n := 3) (i := 10) (by decide +kernel) rfl (gS (v := (eI .u64 x20)) (sv (d_bin rfl rfl (bin_shr' _ _ _ _ h_5)))) <| DrawG.pick (n := 2) (i := 11) (by decide +kernel) rfl (gS (v := (.ptr 0 (Int.toNat x7))) (sv (d_ia rfl rfl (iaB ti84 ti75 rfl h_3)))) ?_
    refine DrawG.pick (n := 1) (i := 12) (by decide +kernel) rfl (gN (h' := [some ⟨84, (l0_1.set (Int.toNat x7) (bits .or .u64 x14 low_2)).map (eI .u64)⟩, some ⟨84, (List.replicate 4 0).map (eI .u64)⟩]) (sv (d_store rfl rfl (stXe (E := (eI .u64)) (y := bits .or .u64 x14 low_2) ti75 rfl rfl (aix_idx h_3) rfl rfl rfl)))) <| DrawG.pick (n := 0) (i := 13) (by decide +kernel) rfl (gS (v := (eI .u64 x20)) (sv (d_assign rfl))) <| DrawG.nil (by decide +kernel) <| Ex.inBlock_mk <| Ex.then_mk <| AB.rw <| wS (v := (eI .i64 (IntKind.i64.wrap (x7 + 1)))) (sv (d_bin rfl rfl (bin_add ..))) <| zm rfl <| zn ?_
    exact ⟨x20, IntKind.i64.wrap (x7 + 1), l0_1.set (Int.toNat x7) (bits .or .u64 x14 low_2), hr2, (zG [0, 1])⟩
  · replace hr2 := iteF hr2 h2
    refine AB.exit <| Ex.then_exit_mk <| Ex.then_exit_mk <| Ex.inBlock_same_mk ?_
    obtain rfl := Option.some.inj hr2
    refine Ex.then_mk ?_
    exact hG1 _ _ _ _ (zG [0, 1]) (J1 low_2 l0_1 hr)
theorem math_bits_Sub64_ok (N : Nat) (x y c : Int) (r : Int × Int) (hr : math_bits_Sub64 N x y c = some r) : Vm.Fn Tryd.prog 58 [] [(eI .u64 x), (eI .u64 y), (eI .u64 c)] (.tup [(eI .u64 r.1), (eI .u64 r.2)]) [] :=
  fn_sub64 Tryd.func58 (by kernel_rfl) (by kernel_rfl) (by kernel_rfl) (by kernel_rfl) hr
set_option maxRecDepth 20000 in
set_option maxHeartbeats 1000000 in
theorem wide_Sub_ok (N : Nat) (va : List Int) (b : List Int) (r : (List Int) × Bool) (hr : wide_Sub N va b = some r) :
    Vm.Fn Tryd.prog 50 [] [(.agg (va.map (eI .u64))), (.agg (b.map (eI .u64)))] (.tup [(.agg (r.1.map (eI .u64))), (eB r.2)]) [] := by
  refine fn_ab Tryd.func50 rfl (by kernel_rfl) Tryd.ntmps50 zl rfl (fr := [(0, (.agg (va.map (eI .u64)))), (1, (.agg (b.map (eI .u64))))]) rfl ?_
  unfold wide_Sub at hr
  refine zq <| wS (v := (.ptr 0 0)) (h' := [some ⟨84, va.map (eI .u64)⟩]) (sv (d_box rfl (flatA (fun _ => rfl)) rfl rfl)) <| wS (v := (.ptr 1 0)) (h' := [some ⟨84, va.map (eI .u64)⟩, some ⟨84, b.map (eI .u64)⟩]) (sv (d_box rfl (flatA (fun _ => rfl)) rfl rfl)) <| wS (v := (.ptr 2 0)) (h' := [some ⟨84, va.map (eI .u64)⟩, some ⟨84, b.map (eI .u64)⟩, some ⟨84, (List.replicate 4 0).map (eI .u64)⟩]) (sv (d_alloc ti84 rfl rfl rfl)) <| wS (v := (eB false)) (sv (d_assign rfl)) <| zn <| zq ?_
  refine wS (v := (.ptr 3 0)) (h' := [some ⟨84, va.map (eI .u64)⟩, some ⟨84, b.map (eI .u64)⟩, some ⟨84, (List.replicate 4 0).map (eI .u64)⟩, some ⟨84, (List.replicate 4 0).map (eI .u64)⟩]) (sv (d_alloc ti84 rfl rfl rfl)) <| zn <| zq <| wS (v := (eI .u64 0)) (sv (d_assign rfl)) <| zn ?_
  refine AB.seq_g fun K1 hK1 hG1 => ?_
  have J1 : ∀ (borrow : Int) (l1 : List Int), wide_Sub_J1 N borrow l1 = some r → K1 (mkF 29 [(4, (.ptr 0 0)), (6, (.ptr 1 0)), (7, (eI .u64 borrow))]) [some ⟨84, (List.replicate 4 0).map (eI .u64)⟩, some ⟨84, l1.map (eI .u64)⟩] := by
    intro borrow l1 hr
    unfold wide_Sub_J1 at hr
    refine hK1 _ _ <| AB.seq ?_
    replace hr := bnd hr; obtain ⟨q, h_1, hr⟩ := hr
    refine AB.rw <| wS (v := (.agg (l1.map (eI .u64)))) (sv (d_load rfl (ldA (E := (eI .u64)) (l := l1) ti84 rfl rfl (arr_len h_1)))) <| zm rfl <| wS (v := (eB (borrow != 0))) (sv (d_bin rfl rfl (bin_neq ..))) <| wN (h' := [some ⟨84, l1.map (eI .u64)⟩, some ⟨84, l1.map (eI .u64)⟩]) (sv (d_store rfl rfl (stA (E := (eI .u64)) (l := List.replicate 4 0) ti84 rfl rfl (fun _ => rfl) rfl (arr_len h_1) rfl))) <| za rfl <| zn <| AB.ret ?_
    obtain rfl := Option.some.inj hr
    exact done_ret (r1 := (.tup [(.agg (l1.map (eI .u64))), (eB (borrow != 0))])) (res2 Tryd.results50 (rvC rfl (ldA (E := (eI .u64)) (l := l1) ti84 rfl rfl (arr_len h_1))) (rvT rfl)) (Ghost.rn [] rfl rfl (FLe.le rfl (V.le_tup (V.les_cons (V.le_arr (fun _ => rfl)) (V.les_cons (V.le_refl _ _) V.les_nil))) FLe.nil) HLe.nil rfl)
  refine zq <| wS (v := (eI .i64 0)) (sv (d_move rfl)) <| zn ?_
  replace hr := bnd hr; obtain ⟨res2, hL2, hr⟩ := hr
  refine AB.block <| AB.loopN (fun m s h => ∃ (borrow_1 : Int) (x9 : Int) (l3 : List Int), wide_Sub_L2 N va b m borrow_1 x9 l3 = some res2 ∧ Ghost 0 s h (mkF 29 [(2, (.ptr 0 0)), (3, (.ptr 1 0)), (4, (.ptr 2 0)), (6, (.ptr 3 0)), (7, (eI .u64 borrow_1)), (9, (eI .i64 x9))]) [some ⟨84, va.map (eI .u64)⟩, some ⟨84, b.map (eI .u64)⟩, some ⟨84, (List.replicate 4 0).map (eI .u64)⟩, some ⟨84, l3.map (eI .u64)⟩]) (n := N) ⟨0, 0, List.replicate 4 0, hL2, (zG [0, 1, 2, 3])⟩ (by rintro s h ⟨_, _, _, h0, _⟩; simp [wide_Sub_L2] at h0) ?_
  rintro m2 s h ⟨borrow_1, x9, l3, hr2, hg⟩
  refine AB.ghost hg ?_
  clear hg hL2
  rw [wide_Sub_L2] at hr2
  refine zq <| wS (v := (eB (decide (x9 < 4)))) (sv (d_bin rfl rfl (bin_lss ..))) <| zn <| AB.seq ?_
  refine AB.cnd rfl (fun h2 => ?_) (fun h2 => ?_)
  · replace hr2 := iteT hr2 h2
    refine AB.skip <| Ex.then_mk <| AB.seq <| AB.block <| zq <| zm rfl <| za rfl <| zn ?_
    replace hr2 := bnd hr2; obtain ⟨x15, h_3, hr2⟩ := hr2
    replace hr2 := bnd hr2; obtain ⟨x18, h_4, hr2⟩ := hr2
    replace hr2 := bnd hr2; obtain ⟨x21, h_5, hr2⟩ := hr2
    replace hr2 := bnd hr2; obtain ⟨x24, h_7, hr2⟩ := hr2
    refine AB.rd (memF [58]) (memF []) mixed <| DrawG.pick (n := 14) (i := 0) (by decide +kernel) rfl (gS (v := (eI .i64 x9)) (sv (d_move rfl))) <| DrawG.pick (n := 13) (i := 1) (by decide +kernel) rfl (gS (v := (eI .i64 x9)) (sv (d_move rfl))) <| DrawG.pick (n := 12) (i := 2) (by decide +kernel) rfl (gS (v := (.ptr 0 (Int.toNat x9))) (sv (d_ia rfl rfl (iaB ti84 ti75 rfl h_3)))) <| DrawG.pick (n := 11) (i := 3) (by decide +kernel) rfl (gS (v := (eI .u64 x15)) (sv (d_load rfl (ldX (E := (eI .u64)) (y := x15) ti75 rfl rfl (aix_idx h_3))))) ?_
    refine DrawG.pick (n := 10) (i := 4) (by decide +kernel) rfl (gS (v := (eI .i64 x9)) (sv (d_move rfl))) <| DrawG.pick (n := 9) (i := 5) (by decide +kernel) rfl (gS (v := (.ptr 1 (Int.toNat x9))) (sv (d_ia rfl rfl (iaB ti84 ti75 rfl h_4)))) <| DrawG.pick (n := 8) (i := 6) (by decide +kernel) rfl (gS (v := (eI .u64 x18)) (sv (d_load rfl (ldX (E := (eI .u64)) (y := x18) ti75 rfl rfl (aix_idx h_4))))) <| DrawG.pick (n := 7) (i := 7) (by decide +kernel) rfl (gS (v := (eI .u64 borrow_1)) (sv (d_move rfl))) ?_
    refine DrawG.pick (n := 6) (i := 8) (by decide +kernel) rfl (gU (fun _ => (Vm.Fn.pure (math_bits_Sub64_ok N x15 x18 borrow_1 x21 h_5) rfl rfl)) rfl (sv (d_call rfl orcU_hit))) <| DrawG.pick (n := 5) (i := 9) (by decide +kernel) rfl (gS (v := (.tup [(eI .u64 x21.1), (eI .u64 x21.2)])) (sv (d_move rfl))) <| DrawG.pick (n := 4) (i := 10) (by decide +kernel) rfl (gS (v := (eI .u64 x21.1)) (sv (d_ext rfl rfl))) <| DrawG.pick (n := 3) (i := 11) (by decide +kernel) rfl (gS (v := (eI .u64 x21.2)) (sv (d_ext rfl rfl))) ?_
    refine DrawG.pick (n := 2) (i := 12) (by decide +kernel) rfl (gS (v := (.ptr 3 (Int.toNat x9))) (sv (d_ia rfl rfl (iaB ti84 ti75 rfl h_7)))) <| DrawG.pick (n := 1) (i := 13) (by decide +kernel) rfl (gN (h' := [some ⟨84, va.map (eI .u64)⟩, some ⟨84, b.map (eI .u64)⟩, some ⟨84, (List.replicate 4 0).map (eI .u64)⟩, some ⟨84, (l3.set (Int.toNat x9) x21.1).map (eI .u64)⟩]) (sv (d_store rfl rfl (stXe (E := (eI .u64)) (y := x21.1) ti75 rfl rfl (aix_idx h_7) rfl rfl rfl)))) <| DrawG.pick (n := 0) (i := 14) (by decide +kernel) rfl (gS (v := (eI .u64 x21.2)) (sv (d_assign rfl))) ?_
    refine DrawG.nil (by decide +kernel) <| Ex.inBlock_mk <| Ex.then_mk <| AB.rw <| wS (v := (eI .i64 (IntKind.i64.wrap (x9 + 1)))) (sv (d_bin rfl rfl (bin_add ..))) <| zm rfl <| zn ?_
    exact ⟨x21.2, IntKind.i64.wrap (x9 + 1), l3.set (Int.toNat x9) x21.1, hr2, (zG [0, 1, 2, 3])⟩
  · replace hr2 := iteF hr2 h2
    refine AB.exit <| Ex.then_exit_mk <| Ex.then_exit_mk <| Ex.inBlock_same_mk ?_
    obtain rfl := Option.some.inj hr2
    refine Ex.then_mk ?_
    exact hG1 _ _ _ _ (zG [2, 3]) (J1 borrow_1 l3 hr)
set_option maxRecDepth 20000 in
set_option maxHeartbeats 1000000 in
theorem wide_Div_ok (N : Nat) (hi : List Int) (lo : List Int) (b : List Int) (r : (List Int) × (List Int) × Bool) (hr : wide_Div N hi lo b = some r) :
    Vm.Fn Tryd.prog 66 [] [(.agg (hi.map (eI .u64))), (.agg (lo.map (eI .u64))), (.agg (b.map (eI .u64)))] (.tup [(.agg (r.1.map (eI .u64))), (.agg (r.2.1.map (eI .u64))), (eB r.2.2)]) [] := by
  refine fn_ab Tryd.func66 rfl (by kernel_rfl) Tryd.ntmps66 zl rfl (fr := [(0, (.agg (hi.map (eI .u64)))), (1, (.agg (lo.map (eI .u64)))), (2, (.agg (b.map (eI .u64))))]) rfl ?_
  unfold wide_Div at hr
  refine zq <| wS (v := (.ptr 0 0)) (h' := [some ⟨84, hi.map (eI .u64)⟩]) (sv (d_box rfl (flatA (fun _ => rfl)) rfl rfl)) <| wS (v := (.ptr 1 0)) (h' := [some ⟨84, hi.map (eI .u64)⟩, some ⟨84, lo.map (eI .u64)⟩]) (sv (d_box rfl (flatA (fun _ => rfl)) rfl rfl)) <| wS (v := (.ptr 2 0)) (h' := [some ⟨84, hi.map (eI .u64)⟩, some ⟨84, lo.map (eI .u64)⟩, some ⟨84, b.map (eI .u64)⟩]) (sv (d_box rfl (flatA (fun _ => rfl)) rfl rfl)) ?_
  refine wS (v := (.ptr 3 0)) (h' := [some ⟨84, hi.map (eI .u64)⟩, some ⟨84, lo.map (eI .u64)⟩, some ⟨84, b.map (eI .u64)⟩, some ⟨84, (List.replicate 4 0).map (eI .u64)⟩]) (sv (d_alloc ti84 rfl rfl rfl)) <| wS (v := (.ptr 4 0)) (h' := [some ⟨84, hi.map (eI .u64)⟩, some ⟨84, lo.map (eI .u64)⟩, some ⟨84, b.map (eI .u64)⟩, some ⟨84, (List.replicate 4 0).map (eI .u64)⟩, some ⟨84, (List.replicate 4 0).map (eI .u64)⟩]) (sv (d_alloc ti84 rfl rfl rfl)) <| wS (v := (eB false)) (sv (d_assign rfl)) <| zn <| AB.scope <| AB.seq <| AB.seq ?_
  replace hr := bnd hr; obtain ⟨q, h_1, hr⟩ := hr
  replace hr := bnd hr; obtain ⟨q_1, h_2, hr⟩ := hr
  replace hr := bnd hr; obtain ⟨x16, h_3, hr⟩ := hr
  refine AB.rw <| wS (v := (.agg (b.map (eI .u64)))) (sv (d_load rfl (ldA (E := (eI .u64)) (l := b) ti84 rfl rfl (arr_len h_1)))) <| wS (v := (.agg (hi.map (eI .u64)))) (sv (d_load rfl (ldA (E := (eI .u64)) (l := hi) ti84 rfl rfl (arr_len h_2)))) <| wC rfl (Vm.Fn.pure (wide_Cmp_ok N b hi x16 h_3) zR rfl) <| wS (v := (eB (decide (x16 ≤ 0)))) (sv (d_bin rfl rfl (bin_leq ..))) <| zn ?_
  refine AB.cnd rfl (fun h4 => ?_) (fun h4 => ?_)
  · replace hr := iteT hr h4
    refine zq <| wS (v := (.agg ([0, 0, 0, 0].map (eI .u64)))) (sv (d_build rfl (bldA ti84 ti75 rfl))) <| wS (v := (.agg ([0, 0, 0, 0].map (eI .u64)))) (sv (d_build rfl (bldA ti84 ti75 rfl))) <| wN (h' := [some ⟨84, hi.map (eI .u64)⟩, some ⟨84, lo.map (eI .u64)⟩, some ⟨84, b.map (eI .u64)⟩, some ⟨84, [0, 0, 0, 0].map (eI .u64)⟩, some ⟨84, (List.replicate 4 0).map (eI .u64)⟩]) (sv (d_store rfl rfl (stA (E := (eI .u64)) (l := List.replicate 4 0) ti84 rfl rfl (fun _ => rfl) rfl rfl rfl))) ?_
    refine wN (h' := [some ⟨84, hi.map (eI .u64)⟩, some ⟨84, lo.map (eI .u64)⟩, some ⟨84, b.map (eI .u64)⟩, some ⟨84, [0, 0, 0, 0].map (eI .u64)⟩, some ⟨84, [0, 0, 0, 0].map (eI .u64)⟩]) (sv (d_store rfl rfl (stA (E := (eI .u64)) (l := List.replicate 4 0) ti84 rfl rfl (fun _ => rfl) rfl rfl rfl))) <| wS (v := (eB false)) (sv (d_assign rfl)) <| zn <| AB.ret <| Ex.then_ret_mk ?_
    obtain rfl := Option.some.inj hr
    exact done_ret (r1 := (.tup [(.agg ([0, 0, 0, 0].map (eI .u64))), (.agg ([0, 0, 0, 0].map (eI .u64))), (eB false)])) (res3 Tryd.results66 (rvC rfl (ldA (E := (eI .u64)) (l := [0, 0, 0, 0]) ti84 rfl rfl rfl)) (rvC rfl (ldA (E := (eI .u64)) (l := [0, 0, 0, 0]) ti84 rfl rfl rfl)) (rvT rfl)) (Ghost.rn [] rfl rfl (FLe.le rfl (V.le_tup (V.les_cons (V.le_arr (fun _ => rfl)) (V.les_cons (V.le_arr (fun _ => rfl)) (V.les_cons (V.le_refl _ _) V.les_nil)))) FLe.nil) HLe.nil rfl)
  · replace hr := iteF hr h4
    refine AB.skip <| Ex.then_mk <| zq <| wS (v := (.agg ([0, 0, 0, 0].map (eI .u64)))) (sv (d_build rfl (bldA ti84 ti75 rfl))) <| wS (v := (.ptr 5 0)) (h' := [some ⟨84, hi.map (eI .u64)⟩, some ⟨84, lo.map (eI .u64)⟩, some ⟨84, b.map (eI .u64)⟩, some ⟨84, (List.replicate 4 0).map (eI .u64)⟩, some ⟨84, (List.replicate 4 0).map (eI .u64)⟩, some ⟨84, (List.replicate 4 0).map (eI .u64)⟩]) (sv (d_alloc ti84 rfl rfl rfl)) ?_
    refine wN (h' := [some ⟨84, hi.map (eI .u64)⟩, some ⟨84, lo.map (eI .u64)⟩, some ⟨84, b.map (eI .u64)⟩, some ⟨84, (List.replicate 4 0).map (eI .u64)⟩, some ⟨84, (List.replicate 4 0).map (eI .u64)⟩, some ⟨84, [0, 0, 0, 0].map (eI .u64)⟩]) (sv (d_store rfl rfl (stA (E := (eI .u64)) (l := List.replicate 4 0) ti84 rfl rfl (fun _ => rfl) rfl rfl rfl))) <| zn <| zq <| wS (v := (.agg (hi.map (eI .u64)))) (sv (d_load rfl (ldA (E := (eI .u64)) (l := hi) ti84 rfl rfl (arr_len h_2)))) ?_
    refine wN (h' := [some ⟨84, hi.map (eI .u64)⟩, some ⟨84, lo.map (eI .u64)⟩, some ⟨84, b.map (eI .u64)⟩, some ⟨84, (List.replicate 4 0).map (eI .u64)⟩, some ⟨84, hi.map (eI .u64)⟩, some ⟨84, [0, 0, 0, 0].map (eI .u64)⟩]) (sv (d_store rfl rfl (stA (E := (eI .u64)) (l := List.replicate 4 0) ti84 rfl rfl (fun _ => rfl) rfl (arr_len h_2) rfl))) <| zn <| AB.seq <| AB.label <| Ex.then_mk ?_
    refine AB.seq_g fun K1 hK1 hG1 => ?_
    have J1 : ∀ (l0 : List Int) (l1 : List Int), wide_Div_J1 N l0 l1 = some r → K1 (mkF 72 [(6, (.ptr 0 0)), (7, (.ptr 1 0))]) [some ⟨84, l0.map (eI .u64)⟩, some ⟨84, l1.map (eI .u64)⟩] := by
      intro l0 l1 hr
      unfold wide_Div_J1 at hr
      refine hK1 _ _ ?_
      refine AB.seq_g fun K2 hK2 hG2 => ?_
      have J2 : wide_Div_J2 N l0 l1 = some r → K2 (mkF 72 [(6, (.ptr 0 0)), (7, (.ptr 1 0)), (8, (eB true))]) [some ⟨84, l0.map (eI .u64)⟩, some ⟨84, l1.map (eI .u64)⟩] := by
        intro hr
        unfold wide_Div_J2 at hr
        refine hK2 _ _ <| AB.ret ?_
        replace hr := bnd hr; obtain ⟨q_3, h_6, hr⟩ := hr
        replace hr := bnd hr; obtain ⟨q_2, h_5, hr⟩ := hr
        obtain rfl := Option.some.inj hr
        exact done_ret (r1 := (.tup [(.agg (l0.map (eI .u64))), (.agg (l1.map (eI .u64))), (eB true)])) (res3 Tryd.results66 (rvC rfl (ldA (E := (eI .u64)) (l := l0) ti84 rfl rfl (arr_len h_5))) (rvC rfl (ldA (E := (eI .u64)) (l := l1) ti84 rfl rfl (arr_len h_6))) (rvT rfl)) (Ghost.rn [] rfl rfl (FLe.le rfl (V.le_tup (V.les_cons (V.le_arr (fun _ => rfl)) (V.les_cons (V.le_arr (fun _ => rfl)) (V.les_cons (V.le_refl _ _) V.les_nil)))) FLe.nil) HLe.nil rfl)
      replace hr := bnd hr; obtain ⟨q_4, h_7, hr⟩ := hr
      replace hr := bnd hr; obtain ⟨q_5, h_8, hr⟩ := hr
      refine AB.rd (memF []) (memF []) mixed <| DrawG.pick (n := 4) (i := 0) (by decide +kernel) rfl (gS (v := (.agg (l0.map (eI .u64)))) (sv (d_load rfl (ldA (E := (eI .u64)) (l := l0) ti84 rfl rfl (arr_len h_7))))) <| DrawG.fork (n := 3) [1, 2] (by decide +kernel) (by decide) ?_
      refine (Fork.cons rfl (gS (v := (.agg (l1.map (eI .u64)))) (sv (d_load rfl (ldA (E := (eI .u64)) (l := l1) ti84 rfl rfl (arr_len h_8))))) ?_ (Fork.cons rfl (gN (h' := [some ⟨84, l0.map (eI .u64)⟩, some ⟨84, l1.map (eI .u64)⟩]) (sv (d_store rfl rfl (stA (E := (eI .u64)) (l := l0) ti84 rfl rfl (fun _ => rfl) (arr_len h_7) (arr_len h_7) rfl)))) ?_ Fork.nil))
      · refine DrawG.pick (n := 2) (i := 2) (by decide +kernel) rfl (gN (h' := [some ⟨84, l0.map (eI .u64)⟩, some ⟨84, l1.map (eI .u64)⟩]) (sv (d_store rfl rfl (stA (E := (eI .u64)) (l := l0) ti84 rfl rfl (fun _ => rfl) (arr_len h_7) (arr_len h_7) rfl)))) <| DrawG.pick (n := 1) (i := 3) (by decide +kernel) rfl (gN (h' := [some ⟨84, l0.map (eI .u64)⟩, some ⟨84, l1.map (eI .u64)⟩]) (sv (d_store rfl rfl (stA (E := (eI .u64)) (l := l1) ti84 rfl rfl (fun _ => rfl) (arr_len h_8) (arr_len h_8) rfl)))) <| DrawG.pick (n := 0) (i := 4) (by decide +kernel) rfl (gS (v := (eB true)) (sv (d_assign rfl))) ?_
        refine DrawG.nil (by decide +kernel) <| Ex.then_mk ?_
        exact hG2 _ _ _ _ (zG [0, 1]) (J2 hr)
      · refine DrawG.pick (n := 2) (i := 1) (by decide +kernel) rfl (gS (v := (.agg (l1.map (eI .u64)))) (sv (d_load rfl (ldA (E := (eI .u64)) (l := l1) ti84 rfl rfl (arr_len h_8))))) <| DrawG.pick (n := 1) (i := 3) (by decide +kernel) rfl (gN (h' := [some ⟨84, l0.map (eI .u64)⟩, some ⟨84, l1.map (eI .u64)⟩]) (sv (d_store rfl rfl (stA (E := (eI .u64)) (l := l1) ti84 rfl rfl (fun _ => rfl) (arr_len h_8) (arr_len h_8) rfl)))) <| DrawG.pick (n := 0) (i := 4) (by decide +kernel) rfl (gS (v := (eB true)) (sv (d_assign rfl))) <| DrawG.nil (by decide +kernel) <| Ex.then_mk ?_
        exact hG2 _ _ _ _ (zG [0, 1]) (J2 hr)
    refine zq <| wS (v := (eI .i64 3)) (sv (d_assign rfl)) <| zn ?_
    replace hr := bnd hr; obtain ⟨res3, hL3, hr⟩ := hr
    refine AB.block <| AB.loopN (fun m s h => ∃ (word : Int) (l0_1 : List Int) (l2 : List Int) (l3 : List Int), wide_Div_L3 N b m word l0_1 l2 l3 = some res3 ∧ Ghost 0 s h (mkF 72 [(4, (.ptr 0 0)), (5, (.ptr 1 0)), (6, (.ptr 2 0)), (7, (.ptr 3 0)), (9, (.ptr 4 0)), (10, (eI .i64 word))]) [some ⟨84, l0_1.map (eI .u64)⟩, some ⟨84, b.map (eI .u64)⟩, some ⟨84, l2.map (eI .u64)⟩, some ⟨84, l3.map (eI .u64)⟩, some ⟨84, [0, 0, 0, 0].map (eI .u64)⟩]) (n := N) ⟨3, lo, List.replicate 4 0, hi, hL3, (zG [1, 2, 3, 4, 5])⟩ (by rintro s h ⟨_, _, _, _, h0, _⟩; simp [wide_Div_L3] at h0) ?_
    rintro m3 s h ⟨word, l0_1, l2, l3, hr3, hg⟩
    refine AB.ghost hg ?_
    clear hg hL3
    rw [wide_Div_L3] at hr3
    refine AB.seq <| zq <| zm rfl <| wS (v := (eB (decide (0 ≤ word)))) (sv (d_bin rfl rfl (bin_geq ..))) <| zn ?_
    refine AB.cnd rfl (fun h9 => ?_) (fun h9 => ?_)
    · replace hr3 := iteT hr3 h9
      refine AB.skip <| Ex.then_mk ?_
      refine AB.seq_g fun K4 hK4 hG4 => ?_
      have J4 : ∀ (l0_2 : List Int) (l2_1 : List Int) (l3_1 : List Int), wide_Div_J4 N b word (wide_Div_L3 N b m3) l0_2 l2_1 l3_1 = some res3 → K4 (mkF 72 [(4, (.ptr 0 0)), (5, (.ptr 1 0)), (6, (.ptr 2 0)), (7, (.ptr 3 0)), (9, (.ptr 4 0)), (10, (eI .i64 word))]) [some ⟨84, l0_2.map (eI .u64)⟩, some ⟨84, b.map (eI .u64)⟩, some ⟨84, l2_1.map (eI .u64)⟩, some ⟨84, l3_1.map (eI .u64)⟩, some ⟨84, [0, 0, 0, 0].map (eI .u64)⟩] := by
        intro l0_2 l2_1 l3_1 hr3
        unfold wide_Div_J4 at hr3
        refine hK4 _ _ <| AB.rw <| zm rfl <| wS (v := (eI .i64 (IntKind.i64.wrap (word - 1)))) (sv (d_bin rfl rfl (bin_sub ..))) <| za rfl <| zn ?_
        exact ⟨IntKind.i64.wrap (word - 1), l0_2, l2_1, l3_1, hr3, (zG [0, 1, 2, 3, 4])⟩
      refine AB.block <| zq <| wS (v := (eI .i64 63)) (sv (d_assign rfl)) <| zn ?_
      replace hr3 := bnd hr3; obtain ⟨res5, hL5, hr3⟩ := hr3
      refine AB.block <| AB.loopN (fun m s h => ∃ (bit : Int) (l0_3 : List Int) (l2_2 : List Int) (l3_2 : List Int), wide_Div_L5 N b word m bit l0_3 l2_2 l3_2 = some res5 ∧ Ghost 0 s h (mkF 72 [(4, (.ptr 0 0)), (5, (.ptr 1 0)), (6, (.ptr 2 0)), (7, (.ptr 3 0)), (9, (.ptr 4 0)), (10, (eI .i64 word)), (11, (eI .i64 bit))]) [some ⟨84, l0_3.map (eI .u64)⟩, some ⟨84, b.map (eI .u64)⟩, some ⟨84, l2_2.map (eI .u64)⟩, some ⟨84, l3_2.map (eI .u64)⟩, some ⟨84, [0, 0, 0, 0].map (eI .u64)⟩]) (n := N) ⟨63, l0_1, l2, l3, hL5, (zG [0, 1, 2, 3, 4])⟩ (by rintro s h ⟨_, _, _, _, h0, _⟩; simp [wide_Div_L5] at h0) ?_
      rintro m5 s h ⟨bit, l0_3, l2_2, l3_2, hr5, hg⟩
      refine AB.ghost hg ?_
      clear hg hL5
      rw [wide_Div_L5] at hr5
      refine AB.seq <| zq <| zm rfl <| wS (v := (eB (decide (0 ≤ bit)))) (sv (d_bin rfl rfl (bin_geq ..))) <| zn ?_
      refine AB.cnd rfl (fun h10 => ?_) (fun h10 => ?_)
      · replace hr5 := iteT hr5 h10
        refine AB.skip <| Ex.then_mk ?_
        refine AB.seq_g fun K6 hK6 hG6 => ?_
        have J6 : ∀ (l0_4 : List Int) (l2_3 : List Int) (l3_3 : List Int), wide_Div_J6 N b word bit (wide_Div_L5 N b word m5) l0_4 l2_3 l3_3 = some res5 → K6 (mkF 72 [(4, (.ptr 0 0)), (5, (.ptr 1 0)), (6, (.ptr 2 0)), (7, (.ptr 3 0)), (9, (.ptr 4 0)), (10, (eI .i64 word)), (11, (eI .i64 bit))]) [some ⟨84, l0_4.map (eI .u64)⟩, some ⟨84, b.map (eI .u64)⟩, some ⟨84, l2_3.map (eI .u64)⟩, some ⟨84, l3_3.map (eI .u64)⟩, some ⟨84, [0, 0, 0, 0].map (eI .u64)⟩] := by
          intro l0_4 l2_3 l3_3 hr5
          unfold wide_Div_J6 at hr5
          refine hK6 _ _ <| AB.rw <| zm rfl <| wS (v := (eI .i64 (IntKind.i64.wrap (bit - 1)))) (sv (d_bin rfl rfl (bin_sub ..))) <| za rfl <| zn ?_
          exact ⟨IntKind.i64.wrap (bit - 1), l0_4, l2_3, l3_3, hr5, (zG [0, 1, 2, 3, 4])⟩
        refine AB.block <| AB.seq ?_
        refine AB.seq_g fun K7 hK7 hG7 => ?_
        have J7 : ∀ (x37 : Bool), wide_Div_J7 N b word bit l0_3 l2_2 l3_2 (wide_Div_L5 N b word m5) x37 = some res5 → K7 (mkF 72 [(4, (.ptr 0 0)), (5, (.ptr 1 0)), (6, (.ptr 2 0)), (7, (.ptr 3 0)), (9, (.ptr 4 0)), (10, (eI .i64 word)), (11, (eI .i64 bit)), (37, (eB x37))]) [some ⟨84, l0_3.map (eI .u64)⟩, some ⟨84, b.map (eI .u64)⟩, some ⟨84, l2_2.map (eI .u64)⟩, some ⟨84, l3_2.map (eI .u64)⟩, some ⟨84, [0, 0, 0, 0].map (eI .u64)⟩] := by
          intro x37 hr5
          unfold wide_Div_J7 at hr5
          refine hK7 _ _ ?_
          refine AB.cnd rfl (fun h11 => ?_) (fun h11 => ?_)
          · replace hr5 := iteT hr5 h11
            refine AB.exit <| Ex.then_exit_mk <| Ex.inBlock_other_mk rfl <| Ex.then_exit_mk <| Ex.then_exit_mk <| Ex.inBlock_other_mk rfl <| Ex.inBlock_other_mk rfl <| Ex.then_exit_mk <| Ex.then_exit_mk <| Ex.inBlock_same_mk ?_
            obtain rfl := Option.some.inj hr5
            obtain rfl := Option.some.inj hr3
            refine Ex.then_mk ?_
            exact hG1 _ _ _ _ (zG [2, 3]) (J1 l2_2 l3_2 hr)
          · replace hr5 := iteF hr5 h11
            refine AB.skip <| Ex.then_mk <| zq <| wS (v := (eI .u64 0)) (sv (d_assign rfl)) <| wS (v := (eI .u64 0)) (sv (d_assign rfl)) <| zn <| AB.seq ?_
            replace hr5 := bnd hr5; obtain ⟨q_6, h_12, hr5⟩ := hr5
            replace hr5 := bnd hr5; obtain ⟨x40, h_13, hr5⟩ := hr5
            replace hr5 := bnd hr5; obtain ⟨q_7, h_14, hr5⟩ := hr5
            refine AB.rw <| wS (v := (.agg (l0_3.map (eI .u64)))) (sv (d_load rfl (ldA (E := (eI .u64)) (l := l0_3) ti84 rfl rfl (arr_len h_12)))) <| wC rfl (Vm.Fn.pure (wide_double_ok N l0_3 0 x40 h_13) zR zR) <| zm rfl <| wS (v := (.agg (x40.1.map (eI .u64)))) (sv (d_ext rfl rfl)) <| wS (v := (eI .u64 x40.2)) (sv (d_ext rfl rfl)) ?_
            refine wN (h' := [some ⟨84, x40.1.map (eI .u64)⟩, some ⟨84, b.map (eI .u64)⟩, some ⟨84, l2_2.map (eI .u64)⟩, some ⟨84, l3_2.map (eI .u64)⟩, some ⟨84, [0, 0, 0, 0].map (eI .u64)⟩]) (sv (d_store rfl rfl (stA (E := (eI .u64)) (l := l0_3) ti84 rfl rfl (fun _ => rfl) (arr_len h_12) (arr_len h_14) rfl))) <| za rfl <| zn <| AB.seq ?_
            replace hr5 := bnd hr5; obtain ⟨q_8, h_15, hr5⟩ := hr5
            replace hr5 := bnd hr5; obtain ⟨x46, h_16, hr5⟩ := hr5
            replace hr5 := bnd hr5; obtain ⟨q_9, h_17, hr5⟩ := hr5
            refine AB.rw <| wS (v := (.agg (l3_2.map (eI .u64)))) (sv (d_load rfl (ldA (E := (eI .u64)) (l := l3_2) ti84 rfl rfl (arr_len h_15)))) <| zm rfl <| wC rfl (Vm.Fn.pure (wide_double_ok N l3_2 x40.2 x46 h_16) zR zR) <| zm rfl <| wS (v := (.agg (x46.1.map (eI .u64)))) (sv (d_ext rfl rfl)) <| wS (v := (eI .u64 x46.2)) (sv (d_ext rfl rfl)) ?_
            refine wN (h' := [some ⟨84, x40.1.map (eI .u64)⟩, some ⟨84, b.map (eI .u64)⟩, some ⟨84, l2_2.map (eI .u64)⟩, some ⟨84, x46.1.map (eI .u64)⟩, some ⟨84, [0, 0, 0, 0].map (eI .u64)⟩]) (sv (d_store rfl rfl (stA (E := (eI .u64)) (l := l3_2) ti84 rfl rfl (fun _ => rfl) (arr_len h_15) (arr_len h_17) rfl))) <| za rfl <| zn ?_
            refine AB.seq_g fun K8 hK8 hG8 => ?_
            have J8 : ∀ (x56 : Bool), wide_Div_J8 N b word bit l2_2 x40 x46 (wide_Div_L5 N b word m5) x56 = some res5 → K8 (mkF 72 [(4, (.ptr 0 0)), (5, (.ptr 1 0)), (6, (.ptr 2 0)), (7, (.ptr 3 0)), (9, (.ptr 4 0)), (10, (eI .i64 word)), (11, (eI .i64 bit)), (56, (eB x56))]) [some ⟨84, x40.1.map (eI .u64)⟩, some ⟨84, b.map (eI .u64)⟩, some ⟨84, l2_2.map (eI .u64)⟩, some ⟨84, x46.1.map (eI .u64)⟩, some ⟨84, [0, 0, 0, 0].map (eI .u64)⟩] := by
              intro x56 hr5
              unfold wide_Div_J8 at hr5
              refine hK8 _ _ ?_
              refine AB.cnd rfl (fun h18 => ?_) (fun h18 => ?_)
              · replace hr5 := iteT hr5 h18
                refine AB.seq ?_
                replace hr5 := bnd hr5; obtain ⟨x60, h_19, hr5⟩ := hr5
                replace hr5 := bnd hr5; obtain ⟨q_10, h_20, hr5⟩ := hr5
                refine AB.rw <| wS (v := (.agg (x46.1.map (eI .u64)))) (sv (d_load rfl (ldA (E := (eI .u64)) (l := x46.1) ti84 rfl rfl (arr_len h_17)))) <| wS (v := (.agg (b.map (eI .u64)))) (sv (d_load rfl (ldA (E := (eI .u64)) (l := b) ti84 rfl rfl (arr_len h_1)))) <| wC rfl (Vm.Fn.pure (wide_Sub_ok N x46.1 b x60 h_19) zR zR) <| zm rfl <| wS (v := (.agg (x60.1.map (eI .u64)))) (sv (d_ext rfl rfl)) <| wS (v := (eB x60.2)) (sv (d_ext rfl rfl)) ?_
                refine wN (h' := [some ⟨84, x40.1.map (eI .u64)⟩, some ⟨84, b.map (eI .u64)⟩, some ⟨84, l2_2.map (eI .u64)⟩, some ⟨84, x60.1.map (eI .u64)⟩, some ⟨84, [0, 0, 0, 0].map (eI .u64)⟩]) (sv (d_store rfl rfl (stA (E := (eI .u64)) (l := x46.1) ti84 rfl rfl (fun _ => rfl) (arr_len h_17) (arr_len h_20) rfl))) <| zn ?_
                replace hr5 := bnd hr5; obtain ⟨x64, h_21, hr5⟩ := hr5
                replace hr5 := bnd hr5; obtain ⟨x67, h_22, hr5⟩ := hr5
                refine AB.rg E0 (fun _ => by show drawOk (fun _ => false) _ = true; decide +kernel) <| tS (sv (d_move rfl)) <| tS (v := (.ptr 2 (Int.toNat word))) (sv (d_ia rfl rfl (iaB ti84 ti75 rfl h_21))) <| tS (v := (eI .u64 x64)) (sv (d_load rfl (ldX (E := (eI .u64)) (y := x64) ti75 rfl rfl (aix_idx h_21)))) <| tS (sv (d_move rfl)) <| tS (v := (eI .u64 x67)) (sv (d_bin rfl rfl (bin_shl' _ _ _ _ h_22))) <| tS (sv (d_bin rfl rfl (bin_or ..))) <| tS (v := (.ptr 2 (Int.toNat word))) (sv (d_ia rfl rfl (iaB ti84 ti75 rfl h_21))) ?_
                refine tN (h' := [some ⟨84, x40.1.map (eI .u64)⟩, some ⟨84, b.map (eI .u64)⟩, some ⟨84, (l2_2.set (Int.toNat word) (bits .or .u64 x64 x67)).map (eI .u64)⟩, some ⟨84, x60.1.map (eI .u64)⟩, some ⟨84, [0, 0, 0, 0].map (eI .u64)⟩]) (sv (d_store rfl rfl (stXe (E := (eI .u64)) (y := bits .or .u64 x64 x67) ti75 rfl rfl (aix_idx h_21) rfl rfl rfl))) <| OpsTo.nil <| Ex.inBlock_mk <| Ex.then_mk ?_
                exact hG6 _ _ _ _ (zG [0, 1, 2, 3, 4]) (J6 x40.1 (l2_2.set (Int.toNat word) (bits .or .u64 x64 x67)) x60.1 hr5)
              · replace hr5 := iteF hr5 h18
                refine AB.skip <| Ex.inBlock_mk <| Ex.then_mk ?_
                exact hG6 _ _ _ _ (zG [0, 1, 2, 3, 4]) (J6 x40.1 l2_2 x46.1 hr5)
            rcases Bool.eq_false_or_eq_true (x46.2 != 0) with h23 | h23
            · replace hr5 := iteT hr5 h23
              refine AB.rw <| zm rfl <| wS (v := (eB (x46.2 != 0))) (sv (d_bin rfl rfl (bin_neq ..))) <| zm rfl <| wS (svX rfl rfl h23) <| wS (svX rfl rfl h23) <| wS (svX rfl rfl h23) <| wS (svX rfl rfl h23) <| wS (v := (eB true)) (sv (d_pickT rfl h23 rfl)) <| zn ?_
              exact hG8 _ _ _ _ (zG [0, 1, 2, 3, 4]) (J8 true hr5)
            · replace hr5 := iteF hr5 h23
              replace hr5 := bnd hr5; obtain ⟨x54, h_24, hr5⟩ := hr5
              refine AB.rw <| zm rfl <| wS (v := (eB (x46.2 != 0))) (sv (d_bin rfl rfl (bin_neq ..))) <| zm rfl <| wS (v := (.agg (x46.1.map (eI .u64)))) (svG rfl rfl h23 (d_load rfl (ldA (E := (eI .u64)) (l := x46.1) ti84 rfl rfl (arr_len h_17)))) <| wS (v := (.agg (b.map (eI .u64)))) (svG rfl rfl h23 (d_load rfl (ldA (E := (eI .u64)) (l := b) ti84 rfl rfl (arr_len h_1)))) ?_
              refine wCG (v := (eI .i64 x54)) (h' := [some ⟨84, x40.1.map (eI .u64)⟩, some ⟨84, b.map (eI .u64)⟩, some ⟨84, l2_2.map (eI .u64)⟩, some ⟨84, x46.1.map (eI .u64)⟩, some ⟨84, [0, 0, 0, 0].map (eI .u64)⟩]) rfl rfl h23 rfl (Vm.Fn.pure (wide_Cmp_ok N x46.1 b x54 h_24) zR rfl) <| wS (v := (eB (decide (0 ≤ x54)))) (svG rfl rfl h23 (d_bin rfl rfl (bin_geq ..))) <| wS (v := (eB (decide (0 ≤ x54)))) (sv (d_pickF rfl h23 rfl)) <| zn ?_
              exact hG8 _ _ _ _ (zG [0, 1, 2, 3, 4]) (J8 (decide (0 ≤ x54)) hr5)
        replace hr5 := bnd hr5; obtain ⟨q_11, h_25, hr5⟩ := hr5
        rcases Bool.eq_false_or_eq_true (l3_2 == [0, 0, 0, 0]) with h26 | h26
        · replace hr5 := iteT hr5 h26
          replace hr5 := bnd hr5; obtain ⟨q_12, h_27, hr5⟩ := hr5
          refine AB.rw <| wS (v := (.agg (l3_2.map (eI .u64)))) (sv (d_load rfl (ldA (E := (eI .u64)) (l := l3_2) ti84 rfl rfl (arr_len h_25)))) <| wS (v := (.agg ([0, 0, 0, 0].map (eI .u64)))) (sv (d_load rfl (ldA (E := (eI .u64)) (l := [0, 0, 0, 0]) ti84 rfl rfl rfl))) <| wS (sv (d_bin rfl rfl (bin_eqlA _ _ ti84 ti75 rfl dep (arr_len h_25) rfl))) <| zm rfl <| wS (v := (.agg (l0_3.map (eI .u64)))) (svG rfl rfl h26 (d_load rfl (ldA (E := (eI .u64)) (l := l0_3) ti84 rfl rfl (arr_len h_27)))) ?_
          refine wS (v := (.agg ([0, 0, 0, 0].map (eI .u64)))) (svG rfl rfl h26 (d_load rfl (ldA (E := (eI .u64)) (l := [0, 0, 0, 0]) ti84 rfl rfl rfl))) <| wS (svG rfl rfl h26 (d_bin rfl rfl (bin_eqlA _ _ ti84 ti75 rfl dep (arr_len h_27) rfl))) <| wS (v := (eB (l0_3 == [0, 0, 0, 0]))) (sv (d_pickT rfl h26 rfl)) <| zn ?_
          exact hG7 _ _ _ _ (zG [0, 1, 2, 3, 4]) (J7 (l0_3 == [0, 0, 0, 0]) hr5)
        · replace hr5 := iteF hr5 h26
          refine AB.rw <| wS (v := (.agg (l3_2.map (eI .u64)))) (sv (d_load rfl (ldA (E := (eI .u64)) (l := l3_2) ti84 rfl rfl (arr_len h_25)))) <| wS (v := (.agg ([0, 0, 0, 0].map (eI .u64)))) (sv (d_load rfl (ldA (E := (eI .u64)) (l := [0, 0, 0, 0]) ti84 rfl rfl rfl))) <| wS (sv (d_bin rfl rfl (bin_eqlA _ _ ti84 ti75 rfl dep (arr_len h_25) rfl))) <| zm rfl <| wS (svX rfl rfl h26) <| wS (svX rfl rfl h26) <| wS (svX rfl rfl h26) <| wS (v := (eB false)) (sv (d_pickF rfl h26 rfl)) <| zn ?_
          exact hG7 _ _ _ _ (zG [0, 1, 2, 3, 4]) (J7 false hr5)
      · replace hr5 := iteF hr5 h10
        refine AB.exit <| Ex.then_exit_mk <| Ex.then_exit_mk <| Ex.inBlock_same_mk ?_
        obtain rfl := Option.some.inj hr5
        refine Ex.inBlock_mk <| Ex.then_mk ?_
        exact hG4 _ _ _ _ (zG [0, 1, 2, 3, 4]) (J4 l0_3 l2_2 l3_2 hr3)
    · replace hr3 := iteF hr3 h9
      refine AB.exit <| Ex.then_exit_mk <| Ex.then_exit_mk <| Ex.inBlock_same_mk ?_
      obtain rfl := Option.some.inj hr3
      refine Ex.then_mk ?_
      exact hG1 _ _ _ _ (zG [2, 3]) (J1 l2 l3 hr)
set_option maxRecDepth 20000 in
set_option maxHeartbeats 1000000 in
theorem wide_reduce_ok (N : Nat) (va : List Int) (vm : List Int) (r : (List Int)) (hr : wide_reduce N va vm = some r) :
    Vm.Fn Tryd.prog 67 [] [(.agg (va.map (eI .u64))), (.agg (vm.map (eI .u64)))] (.agg (r.map (eI .u64))) [] := by
  refine fn_ab Tryd.func67 rfl (by kernel_rfl) Tryd.ntmps67 zl rfl (fr := [(0, (.agg (va.map (eI .u64)))), (1, (.agg (vm.map (eI .u64))))]) rfl ?_
  unfold wide_reduce at hr
  refine zq <| wS (v := (.ptr 0 0)) (h' := [some ⟨84, va.map (eI .u64)⟩]) (sv (d_box rfl (flatA (fun _ => rfl)) rfl rfl)) <| wS (v := (.ptr 1 0)) (h' := [some ⟨84, va.map (eI .u64)⟩, some ⟨84, vm.map (eI .u64)⟩]) (sv (d_box rfl (flatA (fun _ => rfl)) rfl rfl)) <| wS (v := (.ptr 2 0)) (h' := [some ⟨84, va.map (eI .u64)⟩, some ⟨84, vm.map (eI .u64)⟩, some ⟨84, (List.replicate 4 0).map (eI .u64)⟩]) (sv (d_alloc ti84 rfl rfl rfl)) <| zn <| AB.seq <| AB.seq ?_
  replace hr := bnd hr; obtain ⟨q, h_1, hr⟩ := hr
  replace hr := bnd hr; obtain ⟨q_1, h_2, hr⟩ := hr
  replace hr := bnd hr; obtain ⟨x10, h_3, hr⟩ := hr
  refine AB.rw <| wS (v := (.agg (va.map (eI .u64)))) (sv (d_load rfl (ldA (E := (eI .u64)) (l := va) ti84 rfl rfl (arr_len h_1)))) <| wS (v := (.agg (vm.map (eI .u64)))) (sv (d_load rfl (ldA (E := (eI .u64)) (l := vm) ti84 rfl rfl (arr_len h_2)))) <| wC rfl (Vm.Fn.pure (wide_Cmp_ok N va vm x10 h_3) zR rfl) <| wS (v := (eB (decide (x10 < 0)))) (sv (d_bin rfl rfl (bin_lss ..))) <| zn ?_
  refine AB.cnd rfl (fun h4 => ?_) (fun h4 => ?_)
  · replace hr := iteT hr h4
    refine zq <| wS (v := (.agg (va.map (eI .u64)))) (sv (d_load rfl (ldA (E := (eI .u64)) (l := va) ti84 rfl rfl (arr_len h_1)))) <| wN (h' := [some ⟨84, va.map (eI .u64)⟩, some ⟨84, vm.map (eI .u64)⟩, some ⟨84, va.map (eI .u64)⟩]) (sv (d_store rfl rfl (stA (E := (eI .u64)) (l := List.replicate 4 0) ti84 rfl rfl (fun _ => rfl) rfl (arr_len h_1) rfl))) <| zn <| AB.ret <| Ex.then_ret_mk ?_
    obtain rfl := Option.some.inj hr
    exact done_ret (r1 := (.agg (va.map (eI .u64)))) (res1 Tryd.results67 (rvC rfl (ldA (E := (eI .u64)) (l := va) ti84 rfl rfl (arr_len h_1)))) (zG [])
  · replace hr := iteF hr h4
    refine AB.skip <| Ex.then_mk <| AB.seq ?_
    replace hr := bnd hr; obtain ⟨x17, h_5, hr⟩ := hr
    replace hr := bnd hr; obtain ⟨q_2, h_6, hr⟩ := hr
    replace hr := bnd hr; obtain ⟨q_3, h_7, hr⟩ := hr
    refine AB.rw <| wS (v := (.agg ([0, 0, 0, 0].map (eI .u64)))) (sv (d_build rfl (bldA ti84 ti75 rfl))) <| wS (v := (.agg (va.map (eI .u64)))) (sv (d_load rfl (ldA (E := (eI .u64)) (l := va) ti84 rfl rfl (arr_len h_1)))) <| wS (v := (.agg (vm.map (eI .u64)))) (sv (d_load rfl (ldA (E := (eI .u64)) (l := vm) ti84 rfl rfl (arr_len h_2)))) <| wC rfl (Vm.Fn.pure (wide_Div_ok N [0, 0, 0, 0] va vm x17 h_5) zR zR) <| zm rfl <| wS (v := (.agg (x17.1.map (eI .u64)))) (sv (d_ext rfl rfl)) <| wS (v := (.agg (x17.2.1.map (eI .u64)))) (sv (d_ext rfl rfl)) <| wS (v := (eB x17.2.2)) (sv (d_ext rfl rfl)) ?_
    refine wS (v := (.ptr 3 0)) (h' := [some ⟨84, va.map (eI .u64)⟩, some ⟨84, vm.map (eI .u64)⟩, some ⟨84, (List.replicate 4 0).map (eI .u64)⟩, some ⟨84, (List.replicate 4 0).map (eI .u64)⟩]) (sv (d_alloc ti84 rfl rfl rfl)) <| wS (v := (.ptr 4 0)) (h' := [some ⟨84, va.map (eI .u64)⟩, some ⟨84, vm.map (eI .u64)⟩, some ⟨84, (List.replicate 4 0).map (eI .u64)⟩, some ⟨84, (List.replicate 4 0).map (eI .u64)⟩, some ⟨84, (List.replicate 4 0).map (eI .u64)⟩]) (sv (d_alloc ti84 rfl rfl rfl)) ?_
    refine wN (h' := [some ⟨84, va.map (eI .u64)⟩, some ⟨84, vm.map (eI .u64)⟩, some ⟨84, (List.replicate 4 0).map (eI .u64)⟩, some ⟨84, x17.1.map (eI .u64)⟩, some ⟨84, (List.replicate 4 0).map (eI .u64)⟩]) (sv (d_store rfl rfl (stA (E := (eI .u64)) (l := List.replicate 4 0) ti84 rfl rfl (fun _ => rfl) rfl (arr_len h_6) rfl))) ?_
    refine wN (h' := [some ⟨84, va.map (eI .u64)⟩, some ⟨84, vm.map (eI .u64)⟩, some ⟨84, (List.replicate 4 0).map (eI .u64)⟩, some ⟨84, x17.1.map (eI .u64)⟩, some ⟨84, x17.2.1.map (eI .u64)⟩]) (sv (d_store rfl rfl (stA (E := (eI .u64)) (l := List.replicate 4 0) ti84 rfl rfl (fun _ => rfl) rfl (arr_len h_7) rfl))) <| za rfl <| zn <| zq <| wS (v := (.agg (x17.2.1.map (eI .u64)))) (sv (d_load rfl (ldA (E := (eI .u64)) (l := x17.2.1) ti84 rfl rfl (arr_len h_7)))) ?_
    refine wN (h' := [some ⟨84, va.map (eI .u64)⟩, some ⟨84, vm.map (eI .u64)⟩, some ⟨84, x17.2.1.map (eI .u64)⟩, some ⟨84, x17.1.map (eI .u64)⟩, some ⟨84, x17.2.1.map (eI .u64)⟩]) (sv (d_store rfl rfl (stA (E := (eI .u64)) (l := List.replicate 4 0) ti84 rfl rfl (fun _ => rfl) rfl (arr_len h_7) rfl))) <| zn <| AB.ret ?_
    obtain rfl := Option.some.inj hr
    exact done_ret (r1 := (.agg (x17.2.1.map (eI .u64)))) (res1 Tryd.results67 (rvC rfl (ldA (E := (eI .u64)) (l := x17.2.1) ti84 rfl rfl (arr_len h_7)))) (zG [])
set_option maxRecDepth 20000 in
set_option maxHeartbeats 1000000 in
theorem wide_MulMod_ok (N : Nat) (va : List Int) (b : List Int) (vm : List Int) (r : (List Int)) (hr : wide_MulMod N va b vm = some r) :
    Vm.Fn Tryd.prog 59 [] [(.agg (va.map (eI .u64))), (.agg (b.map (eI .u64))), (.agg (vm.map (eI .u64)))] (.agg (r.map (eI .u64))) [] := by
  refine fn_ab Tryd.func59 rfl (by kernel_rfl) Tryd.ntmps59 zl rfl (fr := [(0, (.agg (va.map (eI .u64)))), (1, (.agg (b.map (eI .u64)))), (2, (.agg (vm.map (eI .u64))))]) rfl ?_
  unfold wide_MulMod at hr
  refine zq <| wS (v := (.ptr 0 0)) (h' := [some ⟨84, va.map (eI .u64)⟩]) (sv (d_box rfl (flatA (fun _ => rfl)) rfl rfl)) <| wS (v := (.ptr 1 0)) (h' := [some ⟨84, va.map (eI .u64)⟩, some ⟨84, b.map (eI .u64)⟩]) (sv (d_box rfl (flatA (fun _ => rfl)) rfl rfl)) <| wS (v := (.ptr 2 0)) (h' := [some ⟨84, va.map (eI .u64)⟩, some ⟨84, b.map (eI .u64)⟩, some ⟨84, vm.map (eI .u64)⟩]) (sv (d_box rfl (flatA (fun _ => rfl)) rfl rfl)) ?_
  refine wS (v := (.ptr 3 0)) (h' := [some ⟨84, va.map (eI .u64)⟩, some ⟨84, b.map (eI .u64)⟩, some ⟨84, vm.map (eI .u64)⟩, some ⟨84, (List.replicate 4 0).map (eI .u64)⟩]) (sv (d_alloc ti84 rfl rfl rfl)) <| zn <| AB.seq <| AB.seq ?_
  replace hr := bnd hr; obtain ⟨q, h_1, hr⟩ := hr
  refine AB.rw <| wS (v := (.agg (vm.map (eI .u64)))) (sv (d_load rfl (ldA (E := (eI .u64)) (l := vm) ti84 rfl rfl (arr_len h_1)))) <| wS (v := (.agg ([0, 0, 0, 0].map (eI .u64)))) (sv (d_build rfl (bldA ti84 ti75 rfl))) <| wS (sv (d_bin rfl rfl (bin_eqlA _ _ ti84 ti75 rfl dep (arr_len h_1) rfl))) <| zn ?_
  refine AB.cnd rfl (fun h2 => ?_) (fun h2 => ?_)
  · replace hr := iteT hr h2
    refine zq <| wS (v := (.agg ([0, 0, 0, 0].map (eI .u64)))) (sv (d_build rfl (bldA ti84 ti75 rfl))) <| wN (h' := [some ⟨84, va.map (eI .u64)⟩, some ⟨84, b.map (eI .u64)⟩, some ⟨84, vm.map (eI .u64)⟩, some ⟨84, [0, 0, 0, 0].map (eI .u64)⟩]) (sv (d_store rfl rfl (stA (E := (eI .u64)) (l := List.replicate 4 0) ti84 rfl rfl (fun _ => rfl) rfl rfl rfl))) <| zn <| AB.ret <| Ex.then_ret_mk ?_
    obtain rfl := Option.some.inj hr
    exact done_ret (r1 := (.agg ([0, 0, 0, 0].map (eI .u64)))) (res1 Tryd.results59 (rvC rfl (ldA (E := (eI .u64)) (l := [0, 0, 0, 0]) ti84 rfl rfl rfl))) (zG [])
  · replace hr := iteF hr h2
    refine AB.skip <| Ex.then_mk <| AB.seq ?_
    replace hr := bnd hr; obtain ⟨q_1, h_3, hr⟩ := hr
    replace hr := bnd hr; obtain ⟨q_2, h_4, hr⟩ := hr
    replace hr := bnd hr; obtain ⟨x19, h_5, hr⟩ := hr
    replace hr := bnd hr; obtain ⟨q_3, h_6, hr⟩ := hr
    replace hr := bnd hr; obtain ⟨q_4, h_7, hr⟩ := hr
    refine AB.rw <| wS (v := (.agg (va.map (eI .u64)))) (sv (d_load rfl (ldA (E := (eI .u64)) (l := va) ti84 rfl rfl (arr_len h_3)))) <| wS (v := (.agg (b.map (eI .u64)))) (sv (d_load rfl (ldA (E := (eI .u64)) (l := b) ti84 rfl rfl (arr_len h_4)))) <| wC rfl (Vm.Fn.pure (wide_Mul_ok N va b x19 h_5) zR zR) <| zm rfl <| wS (v := (.agg (x19.1.map (eI .u64)))) (sv (d_ext rfl rfl)) <| wS (v := (.agg (x19.2.map (eI .u64)))) (sv (d_ext rfl rfl)) ?_
    refine wS (v := (.ptr 4 0)) (h' := [some ⟨84, va.map (eI .u64)⟩, some ⟨84, b.map (eI .u64)⟩, some ⟨84, vm.map (eI .u64)⟩, some ⟨84, (List.replicate 4 0).map (eI .u64)⟩, some ⟨84, (List.replicate 4 0).map (eI .u64)⟩]) (sv (d_alloc ti84 rfl rfl rfl)) <| wS (v := (.ptr 5 0)) (h' := [some ⟨84, va.map (eI .u64)⟩, some ⟨84, b.map (eI .u64)⟩, some ⟨84, vm.map (eI .u64)⟩, some ⟨84, (List.replicate 4 0).map (eI .u64)⟩, some ⟨84, (List.replicate 4 0).map (eI .u64)⟩, some ⟨84, (List.replicate 4 0).map (eI .u64)⟩]) (sv (d_alloc ti84 rfl rfl rfl)) ?_
    refine wN (h' := [some ⟨84, va.map (eI .u64)⟩, some ⟨84, b.map (eI .u64)⟩, some ⟨84, vm.map (eI .u64)⟩, some ⟨84, (List.replicate 4 0).map (eI .u64)⟩, some ⟨84, x19.1.map (eI .u64)⟩, some ⟨84, (List.replicate 4 0).map (eI .u64)⟩]) (sv (d_store rfl rfl (stA (E := (eI .u64)) (l := List.replicate 4 0) ti84 rfl rfl (fun _ => rfl) rfl (arr_len h_6) rfl))) ?_
    refine wN (h' := [some ⟨84, va.map (eI .u64)⟩, some ⟨84, b.map (eI .u64)⟩, some ⟨84, vm.map (eI .u64)⟩, some ⟨84, (List.replicate 4 0).map (eI .u64)⟩, some ⟨84, x19.1.map (eI .u64)⟩, some ⟨84, x19.2.map (eI .u64)⟩]) (sv (d_store rfl rfl (stA (E := (eI .u64)) (l := List.replicate 4 0) ti84 rfl rfl (fun _ => rfl) rfl (arr_len h_7) rfl))) <| zn ?_
    refine AB.seq_g fun K1 hK1 hG1 => ?_
    have J1 : ∀ (l1 : List Int), wide_MulMod_J1 N l1 = some r → K1 (mkF 33 [(6, (.ptr 0 0)), (10, (.ptr 1 0))]) [some ⟨84, (List.replicate 4 0).map (eI .u64)⟩, some ⟨84, l1.map (eI .u64)⟩] := by
      intro l1 hr
      unfold wide_MulMod_J1 at hr
      refine hK1 _ _ <| AB.seq ?_
      replace hr := bnd hr; obtain ⟨q_5, h_8, hr⟩ := hr
      refine AB.rw <| wS (v := (.agg (l1.map (eI .u64)))) (sv (d_load rfl (ldA (E := (eI .u64)) (l := l1) ti84 rfl rfl (arr_len h_8)))) <| wN (h' := [some ⟨84, l1.map (eI .u64)⟩, some ⟨84, l1.map (eI .u64)⟩]) (sv (d_store rfl rfl (stA (E := (eI .u64)) (l := List.replicate 4 0) ti84 rfl rfl (fun _ => rfl) rfl (arr_len h_8) rfl))) <| zn <| AB.ret ?_
      obtain rfl := Option.some.inj hr
      exact done_ret (r1 := (.agg (l1.map (eI .u64)))) (res1 Tryd.results59 (rvC rfl (ldA (E := (eI .u64)) (l := l1) ti84 rfl rfl (arr_len h_8)))) (zG [])
    replace hr := bnd hr; obtain ⟨x25, h_9, hr⟩ := hr
    replace hr := bnd hr; obtain ⟨x28, h_11, hr⟩ := hr
    replace hr := bnd hr; obtain ⟨q_6, h_13, hr⟩ := hr
    replace hr := bnd hr; obtain ⟨q_7, h_14, hr⟩ := hr
    refine AB.rd (memF [66, 67]) (memF []) mixed <| DrawG.pick (n := 14) (i := 0) (by decide +kernel) rfl (gS (v := (.agg (x19.1.map (eI .u64)))) (sv (d_load rfl (ldA (E := (eI .u64)) (l := x19.1) ti84 rfl rfl (arr_len h_6))))) <| DrawG.pick (n := 13) (i := 1) (by decide +kernel) rfl (gS (v := (.agg (vm.map (eI .u64)))) (sv (d_load rfl (ldA (E := (eI .u64)) (l := vm) ti84 rfl rfl (arr_len h_1))))) <| DrawG.pick (n := 12) (i := 2) (by decide +kernel) rfl (gU (fun _ => (Vm.Fn.pure (wide_reduce_ok N x19.1 vm x25 h_9) zR zR)) rfl (sv (d_call rfl orcU_hit))) ?_
    refine DrawG.pick (n := 11) (i := 3) (by decide +kernel) rfl (gS (v := (.agg (x19.2.map (eI .u64)))) (sv (d_load rfl (ldA (E := (eI .u64)) (l := x19.2) ti84 rfl rfl (arr_len h_7))))) <| DrawG.pick (n := 10) (i := 4) (by decide +kernel) rfl (gS (v := (.agg (vm.map (eI .u64)))) (sv (d_load rfl (ldA (E := (eI .u64)) (l := vm) ti84 rfl rfl (arr_len h_1))))) <| DrawG.pick (n := 9) (i := 5) (by decide +kernel) rfl (gU (fun _ => (Vm.Fn.pure (wide_Div_ok N x25 x19.2 vm x28 h_11) zR zR)) rfl (sv (d_call rfl orcU_hit))) ?_
    refine DrawG.pick (n := 8) (i := 6) (by decide +kernel) rfl (gS (v := (.tup [(.agg (x28.1.map (eI .u64))), (.agg (x28.2.1.map (eI .u64))), (eB x28.2.2)])) (sv (d_move rfl))) <| DrawG.pick (n := 7) (i := 7) (by decide +kernel) rfl (gS (v := (.agg (x28.1.map (eI .u64)))) (sv (d_ext rfl rfl))) <| DrawG.pick (n := 6) (i := 8) (by decide +kernel) rfl (gS (v := (.agg (x28.2.1.map (eI .u64)))) (sv (d_ext rfl rfl))) <| DrawG.pick (n := 5) (i := 9) (by decide +kernel) rfl (gS (v := (eB x28.2.2)) (sv (d_ext rfl rfl))) <| DrawG.fork (n := 4) [10, 11] (by decide +kernel) (by decide) ?_
    refine (Fork.cons rfl (gS (v := (.ptr 6 0)) (h' := [some ⟨84, va.map (eI .u64)⟩, some ⟨84, b.map (eI .u64)⟩, some ⟨84, vm.map (eI .u64)⟩, some ⟨84, (List.replicate 4 0).map (eI .u64)⟩, some ⟨84, x19.1.map (eI .u64)⟩, some ⟨84, x19.2.map (eI .u64)⟩, some ⟨84, (List.replicate 4 0).map (eI .u64)⟩]) (sv (d_alloc ti84 rfl rfl rfl))) ?_ (Fork.cons rfl (gS (v := (.ptr 6 0)) (h' := [some ⟨84, va.map (eI .u64)⟩, some ⟨84, b.map (eI .u64)⟩, some ⟨84, vm.map (eI .u64)⟩, some ⟨84, (List.replicate 4 0).map (eI .u64)⟩, some ⟨84, x19.1.map (eI .u64)⟩, some ⟨84, x19.2.map (eI .u64)⟩, some ⟨84, (List.replicate 4 0).map (eI .u64)⟩]) (sv (d_alloc ti84 rfl rfl rfl))) ?_ Fork.nil))
    · refine DrawG.pick (n := 3) (i := 11) (by decide +kernel) rfl (gS (v := (.ptr 7 0)) (h' := [some ⟨84, va.map (eI .u64)⟩, some ⟨84, b.map (eI .u64)⟩, some ⟨84, vm.map (eI .u64)⟩, some ⟨84, (List.replicate 4 0).map (eI .u64)⟩, some ⟨84, x19.1.map (eI .u64)⟩, some ⟨84, x19.2.map (eI .u64)⟩, some ⟨84, (List.replicate 4 0).map (eI .u64)⟩, some ⟨84, (List.replicate 4 0).map (eI .u64)⟩]) (sv (d_alloc ti84 rfl rfl rfl))) ?_
      refine DrawG.pick (n := 2) (i := 12) (by decide +kernel) rfl (gN (h' := [some ⟨84, va.map (eI .u64)⟩, some ⟨84, b.map (eI .u64)⟩, some ⟨84, vm.map (eI .u64)⟩, some ⟨84, (List.replicate 4 0).map (eI .u64)⟩, some ⟨84, x19.1.map (eI .u64)⟩, some ⟨84, x19.2.map (eI .u64)⟩, some ⟨84, x28.1.map (eI .u64)⟩, some ⟨84, (List.replicate 4 0).map (eI .u64)⟩]) (sv (d_store rfl rfl (stA (E := (eI .u64)) (l := List.replicate 4 0) ti84 rfl rfl (fun _ => rfl) rfl (arr_len h_13) rfl)))) ?_
      refine DrawG.pick (n := 1) (i := 13) (by decide +kernel) rfl (gN (h' := [some ⟨84, va.map (eI .u64)⟩, some ⟨84, b.map (eI .u64)⟩, some ⟨84, vm.map (eI .u64)⟩, some ⟨84, (List.replicate 4 0).map (eI .u64)⟩, some ⟨84, x19.1.map (eI .u64)⟩, some ⟨84, x19.2.map (eI .u64)⟩, some ⟨84, x28.1.map (eI .u64)⟩, some ⟨84, x28.2.1.map (eI .u64)⟩]) (sv (d_store rfl rfl (stA (E := (eI .u64)) (l := List.replicate 4 0) ti84 rfl rfl (fun _ => rfl) rfl (arr_len h_14) rfl)))) <| DrawG.pick (n := 0) (i := 14) (by decide +kernel) rfl (gS (v := (eB x28.2.2)) (sv (d_assign rfl))) <| DrawG.nil (by decide +kernel) ?_
      refine Ex.then_mk ?_
      exact hG1 _ _ _ _ (zG [3, 7]) (J1 x28.2.1 hr)
    · refine DrawG.pick (n := 3) (i := 10) (by decide +kernel) rfl (gS (v := (.ptr 7 0)) (h' := [some ⟨84, va.map (eI .u64)⟩, some ⟨84, b.map (eI .u64)⟩, some ⟨84, vm.map (eI .u64)⟩, some ⟨84, (List.replicate 4 0).map (eI .u64)⟩, some ⟨84, x19.1.map (eI .u64)⟩, some ⟨84, x19.2.map (eI .u64)⟩, some ⟨84, (List.replicate 4 0).map (eI .u64)⟩, some ⟨84, (List.replicate 4 0).map (eI .u64)⟩]) (sv (d_alloc ti84 rfl rfl rfl))) ?_
      refine DrawG.pick (n := 2) (i := 12) (by decide +kernel) rfl (gN (h' := [some ⟨84, va.map (eI .u64)⟩, some ⟨84, b.map (eI .u64)⟩, some ⟨84, vm.map (eI .u64)⟩, some ⟨84, (List.replicate 4 0).map (eI .u64)⟩, some ⟨84, x19.1.map (eI .u64)⟩, some ⟨84, x19.2.map (eI .u64)⟩, some ⟨84, (List.replicate 4 0).map (eI .u64)⟩, some ⟨84, x28.1.map (eI .u64)⟩]) (sv (d_store rfl rfl (stA (E := (eI .u64)) (l := List.replicate 4 0) ti84 rfl rfl (fun _ => rfl) rfl (arr_len h_13) rfl)))) ?_
      refine DrawG.pick (n := 1) (i := 13) (by decide +kernel) rfl (gN (h' := [some ⟨84, va.map (eI .u64)⟩, some ⟨84, b.map (eI .u64)⟩, some ⟨84, vm.map (eI .u64)⟩, some ⟨84, (List.replicate 4 0).map (eI .u64)⟩, some ⟨84, x19.1.map (eI .u64)⟩, some ⟨84, x19.2.map (eI .u64)⟩, some ⟨84, x28.2.1.map (eI .u64)⟩, some ⟨84, x28.1.map (eI .u64)⟩]) (sv (d_store rfl rfl (stA (E := (eI .u64)) (l := List.replicate 4 0) ti84 rfl rfl (fun _ => rfl) rfl (arr_len h_14) rfl)))) <| DrawG.pick (n := 0) (i := 14) (by decide +kernel) rfl (gS (v := (eB x28.2.2)) (sv (d_assign rfl))) <| DrawG.nil (by decide +kernel) ?_
      refine Ex.then_mk ?_
      exact hG1 _ _ _ _ (zG [3, 6]) (J1 x28.2.1 hr)
set_option maxRecDepth 20000 in
set_option maxHeartbeats 1000000 in
theorem group_Mul_ok (N : Nat) (va : List Int) (b : List Int) (r : (List Int)) (hr : group_Mul N va b = some r) :
    Vm.Fn Tryd.prog 52 [] [(.agg (va.map (eI .u64))), (.agg (b.map (eI .u64)))] (.agg (r.map (eI .u64))) [] := by
  refine fn_ab Tryd.func52 rfl (by kernel_rfl) Tryd.ntmps52 zl rfl (fr := [(0, (.agg (va.map (eI .u64)))), (1, (.agg (b.map (eI .u64))))]) rfl ?_
  unfold group_Mul at hr
  refine zq <| wS (v := (.ptr 0 0)) (h' := [some ⟨84, va.map (eI .u64)⟩]) (sv (d_box rfl (flatA (fun _ => rfl)) rfl rfl)) <| wS (v := (.ptr 1 0)) (h' := [some ⟨84, va.map (eI .u64)⟩, some ⟨84, b.map (eI .u64)⟩]) (sv (d_box rfl (flatA (fun _ => rfl)) rfl rfl)) <| wS (v := (.ptr 2 0)) (h' := [some ⟨84, va.map (eI .u64)⟩, some ⟨84, b.map (eI .u64)⟩, some ⟨84, (List.replicate 4 0).map (eI .u64)⟩]) (sv (d_alloc ti84 rfl rfl rfl)) <| zn <| AB.seq ?_
  replace hr := bnd hr; obtain ⟨q, h_1, hr⟩ := hr
  replace hr := bnd hr; obtain ⟨q_1, h_2, hr⟩ := hr
  replace hr := bnd hr; obtain ⟨x7, h_3, hr⟩ := hr
  replace hr := bnd hr; obtain ⟨x8, h_5, hr⟩ := hr
  replace hr := bnd hr; obtain ⟨q_2, h_7, hr⟩ := hr
  have hc4 : Vm.Fn Tryd.prog 57 [some ⟨84, va.map (eI .u64)⟩, some ⟨84, b.map (eI .u64)⟩, some ⟨84, (List.replicate 4 0).map (eI .u64)⟩] [] (.agg (x7.map (eI .u64))) [some ⟨84, va.map (eI .u64)⟩, some ⟨84, b.map (eI .u64)⟩, some ⟨84, (List.replicate 4 0).map (eI .u64)⟩] := (Vm.Fn.pure (group_Modulus_ok N x7 h_3) rfl zR)
  have hc6 : Vm.Fn Tryd.prog 59 [some ⟨84, va.map (eI .u64)⟩, some ⟨84, b.map (eI .u64)⟩, some ⟨84, (List.replicate 4 0).map (eI .u64)⟩] [(.agg (va.map (eI .u64))), (.agg (b.map (eI .u64))), (.agg (x7.map (eI .u64)))] (.agg (x8.map (eI .u64))) [some ⟨84, va.map (eI .u64)⟩, some ⟨84, b.map (eI .u64)⟩, some ⟨84, (List.replicate 4 0).map (eI .u64)⟩] := (Vm.Fn.pure (wide_MulMod_ok N va b x7 x8 h_5) zR zR)
  refine AB.rg (Env.add (Env.one mixed hc4 allF (fun _ _ => rfl)) hc6 allF (fun _ _ => rfl) (fun _ h => h)) (fun _ => by show drawOk allF _ = true; decide +kernel) <| tS (v := (.agg (va.map (eI .u64)))) (sv (d_load rfl (ldA (E := (eI .u64)) (l := va) ti84 rfl rfl (arr_len h_1)))) <| tS (v := (.agg (b.map (eI .u64)))) (sv (d_load rfl (ldA (E := (eI .u64)) (l := b) ti84 rfl rfl (arr_len h_2)))) <| tS (v := (.agg (x7.map (eI .u64)))) (h' := [some ⟨84, va.map (eI .u64)⟩, some ⟨84, b.map (eI .u64)⟩, some ⟨84, (List.replicate 4 0).map (eI .u64)⟩]) (sv (d_call rfl (Env.add_M rfl Env.one_O))) ?_
  refine tS (v := (.agg (x8.map (eI .u64)))) (h' := [some ⟨84, va.map (eI .u64)⟩, some ⟨84, b.map (eI .u64)⟩, some ⟨84, (List.replicate 4 0).map (eI .u64)⟩]) (sv (d_call rfl Env.add_O)) <| tN (h' := [some ⟨84, va.map (eI .u64)⟩, some ⟨84, b.map (eI .u64)⟩, some ⟨84, x8.map (eI .u64)⟩]) (sv (d_store rfl rfl (stA (E := (eI .u64)) (l := List.replicate 4 0) ti84 rfl rfl (fun _ => rfl) rfl (arr_len h_7) rfl))) <| OpsTo.nil <| Ex.then_mk <| AB.ret ?_
  obtain rfl := Option.some.inj hr
  exact done_ret (r1 := (.agg (x8.map (eI .u64)))) (res1 Tryd.results52 (rvC rfl (ldA (E := (eI .u64)) (l := x8) ti84 rfl rfl (arr_len h_7)))) (zG [])
set_option maxRecDepth 20000 in
set_option maxHeartbeats 1000000 in
theorem group_Exp_ok (N : Nat) (va : List Int) (ve : List Int) (r : (List Int)) (hr : group_Exp N va ve = some r) :
    Vm.Fn Tryd.prog 54 [] [(.agg (va.map (eI .u64))), (.agg (ve.map (eI .u64)))] (.agg (r.map (eI .u64))) [] := by
  refine fn_ab Tryd.func54 rfl (by kernel_rfl) Tryd.ntmps54 zl rfl (fr := [(0, (.agg (va.map (eI .u64)))), (1, (.agg (ve.map (eI .u64))))]) rfl ?_
  unfold group_Exp at hr
  refine zq <| wS (v := (.ptr 0 0)) (h' := [some ⟨84, va.map (eI .u64)⟩]) (sv (d_box rfl (flatA (fun _ => rfl)) rfl rfl)) <| wS (v := (.ptr 1 0)) (h' := [some ⟨84, va.map (eI .u64)⟩, some ⟨84, ve.map (eI .u64)⟩]) (sv (d_box rfl (flatA (fun _ => rfl)) rfl rfl)) <| wS (v := (.ptr 2 0)) (h' := [some ⟨84, va.map (eI .u64)⟩, some ⟨84, ve.map (eI .u64)⟩, some ⟨84, (List.replicate 4 0).map (eI .u64)⟩]) (sv (d_alloc ti84 rfl rfl rfl)) <| zn <| AB.seq ?_
  replace hr := bnd hr; obtain ⟨x9, h_1, hr⟩ := hr
  replace hr := bnd hr; obtain ⟨q, h_2, hr⟩ := hr
  refine AB.rw <| wC rfl (Vm.Fn.pure (wide_FromUint_ok N 1 x9 h_1) rfl zR) <| wS (v := (.ptr 3 0)) (h' := [some ⟨84, va.map (eI .u64)⟩, some ⟨84, ve.map (eI .u64)⟩, some ⟨84, (List.replicate 4 0).map (eI .u64)⟩, some ⟨84, (List.replicate 4 0).map (eI .u64)⟩]) (sv (d_alloc ti84 rfl rfl rfl)) <| wN (h' := [some ⟨84, va.map (eI .u64)⟩, some ⟨84, ve.map (eI .u64)⟩, some ⟨84, (List.replicate 4 0).map (eI .u64)⟩, some ⟨84, x9.map (eI .u64)⟩]) (sv (d_store rfl rfl (stA (E := (eI .u64)) (l := List.replicate 4 0) ti84 rfl rfl (fun _ => rfl) rfl (arr_len h_2) rfl))) <| zn <| AB.seq ?_
  replace hr := bnd hr; obtain ⟨q_1, h_3, hr⟩ := hr
  replace hr := bnd hr; obtain ⟨x11, h_4, hr⟩ := hr
  refine AB.rw <| wS (v := (.agg (ve.map (eI .u64)))) (sv (d_load rfl (ldA (E := (eI .u64)) (l := ve) ti84 rfl rfl (arr_len h_3)))) <| wC rfl (Vm.Fn.pure (wide_Len_ok N ve x11 h_4) zR rfl) <| za rfl <| zn ?_
  refine AB.seq_g fun K1 hK1 hG1 => ?_
  have J1 : ∀ (l1 : List Int), group_Exp_J1 N l1 = some r → K1 (mkF 37 [(4, (.ptr 0 0)), (5, (.ptr 1 0))]) [some ⟨84, (List.replicate 4 0).map (eI .u64)⟩, some ⟨84, l1.map (eI .u64)⟩] := by
    intro l1 hr
    unfold group_Exp_J1 at hr
    refine hK1 _ _ <| AB.seq ?_
    replace hr := bnd hr; obtain ⟨q_2, h_5, hr⟩ := hr
    refine AB.rw <| wS (v := (.agg (l1.map (eI .u64)))) (sv (d_load rfl (ldA (E := (eI .u64)) (l := l1) ti84 rfl rfl (arr_len h_5)))) <| wN (h' := [some ⟨84, l1.map (eI .u64)⟩, some ⟨84, l1.map (eI .u64)⟩]) (sv (d_store rfl rfl (stA (E := (eI .u64)) (l := List.replicate 4 0) ti84 rfl rfl (fun _ => rfl) rfl (arr_len h_5) rfl))) <| zn <| AB.ret ?_
    obtain rfl := Option.some.inj hr
    exact done_ret (r1 := (.agg (l1.map (eI .u64)))) (res1 Tryd.results54 (rvC rfl (ldA (E := (eI .u64)) (l := l1) ti84 rfl rfl (arr_len h_5)))) (zG [])
  refine zq <| zm rfl <| wS (v := (eI .i64 0)) (sv (d_move rfl)) <| zn ?_
  replace hr := bnd hr; obtain ⟨res2, hL2, hr⟩ := hr
  refine AB.block <| AB.loopN (fun m s h => ∃ (x13 : Int) (l3 : List Int), group_Exp_L2 N va ve x11 m x13 l3 = some res2 ∧ Ghost 0 s h (mkF 37 [(2, (.ptr 0 0)), (3, (.ptr 1 0)), (4, (.ptr 2 0)), (5, (.ptr 3 0)), (6, (eI .i64 x11)), (12, (eI .i64 x11)), (13, (eI .i64 x13))]) [some ⟨84, va.map (eI .u64)⟩, some ⟨84, ve.map (eI .u64)⟩, some ⟨84, (List.replicate 4 0).map (eI .u64)⟩, some ⟨84, l3.map (eI .u64)⟩]) (n := N) ⟨0, x9, hL2, (zG [0, 1, 2, 3])⟩ (by rintro s h ⟨_, _, h0, _⟩; simp [group_Exp_L2] at h0) ?_
  rintro m2 s h ⟨x13, l3, hr2, hg⟩
  refine AB.ghost hg ?_
  clear hg hL2
  rw [group_Exp_L2] at hr2
  refine zq <| wS (sv (d_bin rfl rfl (bin_lss ..))) <| zn <| AB.seq ?_
  refine AB.cnd rfl (fun h6 => ?_) (fun h6 => ?_)
  · replace hr2 := iteT hr2 h6
    refine AB.skip <| Ex.then_mk ?_
    refine AB.seq_g fun K3 hK3 hG3 => ?_
    have J3 : ∀ (l3_1 : List Int), group_Exp_J3 N va ve x11 x13 (group_Exp_L2 N va ve x11 m2) l3_1 = some res2 → K3 (mkF 37 [(2, (.ptr 0 0)), (3, (.ptr 1 0)), (4, (.ptr 2 0)), (5, (.ptr 3 0)), (6, (eI .i64 x11)), (12, (eI .i64 x11)), (13, (eI .i64 x13))]) [some ⟨84, va.map (eI .u64)⟩, some ⟨84, ve.map (eI .u64)⟩, some ⟨84, (List.replicate 4 0).map (eI .u64)⟩, some ⟨84, l3_1.map (eI .u64)⟩] := by
      intro l3_1 hr2
      unfold group_Exp_J3 at hr2
      refine hK3 _ _ <| AB.rw <| wS (v := (eI .i64 (IntKind.i64.wrap (x13 + 1)))) (sv (d_bin rfl rfl (bin_add ..))) <| zm rfl <| zn ?_
      exact ⟨IntKind.i64.wrap (x13 + 1), l3_1, hr2, (zG [0, 1, 2, 3])⟩
    refine AB.block <| zq <| zm rfl <| za rfl <| zn <| zq <| zm rfl <| wS (v := (eI .i64 (IntKind.i64.wrap (x11 - 1)))) (sv (d_bin rfl rfl (bin_sub ..))) <| zm rfl <| wS (sv (d_bin rfl rfl (bin_sub ..))) <| za rfl <| zn <| AB.seq ?_
    replace hr2 := bnd hr2; obtain ⟨q_3, h_7, hr2⟩ := hr2
    replace hr2 := bnd hr2; obtain ⟨x22, h_8, hr2⟩ := hr2
    replace hr2 := bnd hr2; obtain ⟨q_4, h_9, hr2⟩ := hr2
    refine AB.rw <| wS (v := (.agg (l3.map (eI .u64)))) (sv (d_load rfl (ldA (E := (eI .u64)) (l := l3) ti84 rfl rfl (arr_len h_7)))) <| wS (v := (.agg (l3.map (eI .u64)))) (sv (d_load rfl (ldA (E := (eI .u64)) (l := l3) ti84 rfl rfl (arr_len h_7)))) <| wC rfl (Vm.Fn.pure (group_Mul_ok N l3 l3 x22 h_8) zR zR) <| wN (h' := [some ⟨84, va.map (eI .u64)⟩, some ⟨84, ve.map (eI .u64)⟩, some ⟨84, (List.replicate 4 0).map (eI .u64)⟩, some ⟨84, x22.map (eI .u64)⟩]) (sv (d_store rfl rfl (stA (E := (eI .u64)) (l := l3) ti84 rfl rfl (fun _ => rfl) (arr_len h_7) (arr_len h_9) rfl))) <| zn <| AB.seq ?_
    replace hr2 := bnd hr2; obtain ⟨x25, h_10, hr2⟩ := hr2
    replace hr2 := bnd hr2; obtain ⟨x29, h_11, hr2⟩ := hr2
    refine AB.rw <| zm rfl <| wS (v := (eI .i64 (IntKind.i64.wrap (Int.tdiv (IntKind.i64.wrap ((IntKind.i64.wrap (x11 - 1)) - x13)) 64)))) (sv (d_bin rfl rfl (bin_quo' _ _ _ _ rfl))) <| wS (v := (.ptr 1 (Int.toNat (IntKind.i64.wrap (Int.tdiv (IntKind.i64.wrap ((IntKind.i64.wrap (x11 - 1)) - x13)) 64))))) (sv (d_ia rfl rfl (iaB ti84 ti75 rfl h_10))) <| wS (v := (eI .u64 x25)) (sv (d_load rfl (ldX (E := (eI .u64)) (y := x25) ti75 rfl rfl (aix_idx h_10)))) <| zm rfl <| wS (v := (eI .i64 (Int.tmod (IntKind.i64.wrap ((IntKind.i64.wrap (x11 - 1)) - x13)) 64))) (sv (d_bin rfl rfl (bin_rem' _ _ _ _ rfl))) ?_
    refine wS (sv (d_bin rfl rfl (bin_shr' _ _ _ _ h_11))) <| wS (v := (eI .u64 (bits .and .u64 x29 1))) (sv (d_bin rfl rfl (bin_and ..))) <| wS (v := (eB ((bits .and .u64 x29 1) == 1))) (sv (d_bin rfl rfl (bin_eql ..))) <| zn ?_
    refine AB.cnd rfl (fun h12 => ?_) (fun h12 => ?_)
    · replace hr2 := iteT hr2 h12
      replace hr2 := bnd hr2; obtain ⟨q_5, h_13, hr2⟩ := hr2
      replace hr2 := bnd hr2; obtain ⟨x34, h_14, hr2⟩ := hr2
      replace hr2 := bnd hr2; obtain ⟨q_6, h_15, hr2⟩ := hr2
      refine AB.rw <| wS (v := (.agg (x22.map (eI .u64)))) (sv (d_load rfl (ldA (E := (eI .u64)) (l := x22) ti84 rfl rfl (arr_len h_9)))) <| wS (v := (.agg (va.map (eI .u64)))) (sv (d_load rfl (ldA (E := (eI .u64)) (l := va) ti84 rfl rfl (arr_len h_13)))) <| wC rfl (Vm.Fn.pure (group_Mul_ok N x22 va x34 h_14) zR zR) <| wN (h' := [some ⟨84, va.map (eI .u64)⟩, some ⟨84, ve.map (eI .u64)⟩, some ⟨84, (List.replicate 4 0).map (eI .u64)⟩, some ⟨84, x34.map (eI .u64)⟩]) (sv (d_store rfl rfl (stA (E := (eI .u64)) (l := x22) ti84 rfl rfl (fun _ => rfl) (arr_len h_9) (arr_len h_15) rfl))) <| OpsW.nil ?_
      refine Ex.inBlock_mk <| Ex.then_mk ?_
      exact hG3 _ _ _ _ (zG [0, 1, 2, 3]) (J3 x34 hr2)
    · replace hr2 := iteF hr2 h12
      refine AB.skip <| Ex.inBlock_mk <| Ex.then_mk ?_
      exact hG3 _ _ _ _ (zG [0, 1, 2, 3]) (J3 x22 hr2)
  · replace hr2 := iteF hr2 h6
    refine AB.exit <| Ex.then_exit_mk <| Ex.then_exit_mk <| Ex.inBlock_same_mk ?_
    obtain rfl := Option.some.inj hr2
    refine Ex.then_mk ?_
    exact hG1 _ _ _ _ (zG [2, 3]) (J1 l3 hr)
set_option maxRecDepth 20000 in
set_option maxHeartbeats 1000000 in
theorem group_Member_ok (N : Nat) (va : List Int) (r : Bool) (hr : group_Member N va = some r) :
    Vm.Fn Tryd.prog 48 [] [(.agg (va.map (eI .u64)))] (eB r) [] := by
  refine fn_ab Tryd.func48 rfl (by kernel_rfl) Tryd.ntmps48 zl rfl (fr := [(0, (.agg (va.map (eI .u64))))]) rfl ?_
  unfold group_Member at hr
  refine zq <| wS (v := (.ptr 0 0)) (h' := [some ⟨84, va.map (eI .u64)⟩]) (sv (d_box rfl (flatA (fun _ => rfl)) rfl rfl)) <| wS (v := (eB false)) (sv (d_assign rfl)) <| zn <| AB.seq ?_
  refine AB.seq_g fun K1 hK1 hG1 => ?_
  have J1 : ∀ (x11 : Bool), group_Member_J1 N va x11 = some r → K1 (mkF 17 [(1, (.ptr 0 0)), (11, (eB x11))]) [some ⟨84, va.map (eI .u64)⟩] := by
    intro x11 hr
    unfold group_Member_J1 at hr
    refine hK1 _ _ ?_
    refine AB.cnd rfl (fun h1 => ?_) (fun h1 => ?_)
    · replace hr := iteT hr h1
      refine zq <| wS (v := (eB false)) (sv (d_assign rfl)) <| zn <| AB.ret <| Ex.then_ret_mk ?_
      obtain rfl := Option.some.inj hr
      exact done_ret (r1 := (eB false)) (res1 Tryd.results48 (rvT rfl)) (zG [])
    · replace hr := iteF hr h1
      refine AB.skip <| Ex.then_mk <| AB.seq ?_
      replace hr := bnd hr; obtain ⟨q, h_2, hr⟩ := hr
      replace hr := bnd hr; obtain ⟨x13, h_3, hr⟩ := hr
      replace hr := bnd hr; obtain ⟨x14, h_5, hr⟩ := hr
      replace hr := bnd hr; obtain ⟨x15, h_7, hr⟩ := hr
      replace hr := bnd hr; obtain ⟨q_1, h_9, hr⟩ := hr
      replace hr := bnd hr; obtain ⟨q_2, h_10, hr⟩ := hr
      have hc4 : Vm.Fn Tryd.prog 51 [some ⟨84, va.map (eI .u64)⟩] [] (.agg (x13.map (eI .u64))) [some ⟨84, va.map (eI .u64)⟩] := (Vm.Fn.pure (group_Order_ok N x13 h_3) rfl zR)
      have hc6 : Vm.Fn Tryd.prog 54 [some ⟨84, va.map (eI .u64)⟩] [(.agg (va.map (eI .u64))), (.agg (x13.map (eI .u64)))] (.agg (x14.map (eI .u64))) [some ⟨84, va.map (eI .u64)⟩] := (Vm.Fn.pure (group_Exp_ok N va x13 x14 h_5) zR zR)
      have hc8 : Vm.Fn Tryd.prog 47 [some ⟨84, va.map (eI .u64)⟩] [(eI .u64 1)] (.agg (x15.map (eI .u64))) [some ⟨84, va.map (eI .u64)⟩] := (Vm.Fn.pure (wide_FromUint_ok N 1 x15 h_7) rfl zR)
      refine AB.rg (Env.add (Env.add (Env.one mixed hc4 allF (fun _ _ => rfl)) hc6 allF (fun _ _ => rfl) (fun _ h => h)) hc8 allF (fun _ _ => rfl) (fun _ h => h)) (fun _ => by show drawOk allF _ = true; decide +kernel) <| tS (v := (.agg (va.map (eI .u64)))) (sv (d_load rfl (ldA (E := (eI .u64)) (l := va) ti84 rfl rfl (arr_len h_2)))) <| tS (v := (.agg (x13.map (eI .u64)))) (h' := [some ⟨84, va.map (eI .u64)⟩]) (sv (d_call rfl (Env.add_M rfl (Env.add_M rfl Env.one_O)))) <| tS (v := (.agg (x14.map (eI .u64)))) (h' := [some ⟨84, va.map (eI .u64)⟩]) (sv (d_call rfl (Env.add_M rfl Env.add_O))) ?_
      refine tS (v := (.agg (x15.map (eI .u64)))) (h' := [some ⟨84, va.map (eI .u64)⟩]) (sv (d_call rfl Env.add_O)) <| tS (sv (d_bin rfl rfl (bin_eqlA _ _ ti84 ti75 rfl dep (arr_len h_9) (arr_len h_10)))) <| tS (sv (d_assign rfl)) <| OpsTo.nil <| Ex.then_mk <| AB.ret ?_
      obtain rfl := Option.some.inj hr
      exact done_ret (r1 := (eB (x14 == x15))) (res1 Tryd.results48 (rvT rfl)) (zG [])
  replace hr := bnd hr; obtain ⟨q_3, h_11, hr⟩ := hr
  rcases Bool.eq_false_or_eq_true (va == [0, 0, 0, 0]) with h12 | h12
  · replace hr := iteT hr h12
    refine AB.rg E1 (fun _ => by show drawOk allF _ = true; decide +kernel) <| tS (v := (.agg (va.map (eI .u64)))) (sv (d_load rfl (ldA (E := (eI .u64)) (l := va) ti84 rfl rfl (arr_len h_11)))) <| tS (v := (.agg ([0, 0, 0, 0].map (eI .u64)))) (sv (d_build rfl (bldA ti84 ti75 rfl))) <| tS (sv (d_bin rfl rfl (bin_eqlA _ _ ti84 ti75 rfl dep (arr_len h_11) rfl))) <| tS (sv (d_move rfl)) <| tS (svX rfl rfl h12) <| tS (svX rfl rfl h12) <| tS (svX rfl rfl h12) <| tS (svX rfl rfl h12) <| tS (v := (eB true)) (sv (d_pickT rfl h12 rfl)) <| OpsTo.nil <| Ex.then_mk ?_
    exact hG1 _ _ _ _ (zG [0]) (J1 true hr)
  · replace hr := iteF hr h12
    replace hr := bnd hr; obtain ⟨x8, h_13, hr⟩ := hr
    replace hr := bnd hr; obtain ⟨x9, h_15, hr⟩ := hr
    have hc14 : Vm.Fn Tryd.prog 57 [some ⟨84, va.map (eI .u64)⟩] [] (.agg (x8.map (eI .u64))) [some ⟨84, va.map (eI .u64)⟩] := (Vm.Fn.pure (group_Modulus_ok N x8 h_13) rfl zR)
    have hc16 : Vm.Fn Tryd.prog 56 [some ⟨84, va.map (eI .u64)⟩] [(.agg (va.map (eI .u64))), (.agg (x8.map (eI .u64)))] (eI .i64 x9) [some ⟨84, va.map (eI .u64)⟩] := (Vm.Fn.pure (wide_Cmp_ok N va x8 x9 h_15) zR rfl)
    refine AB.rg (Env.add (Env.one mixed hc14 allF (fun _ _ => rfl)) hc16 allF (fun _ _ => rfl) (fun _ h => h)) (fun _ => by show drawOk allF _ = true; decide +kernel) <| tS (v := (.agg (va.map (eI .u64)))) (sv (d_load rfl (ldA (E := (eI .u64)) (l := va) ti84 rfl rfl (arr_len h_11)))) <| tS (v := (.agg ([0, 0, 0, 0].map (eI .u64)))) (sv (d_build rfl (bldA ti84 ti75 rfl))) <| tS (sv (d_bin rfl rfl (bin_eqlA _ _ ti84 ti75 rfl dep (arr_len h_11) rfl))) <| tS (sv (d_move rfl)) <| tS (v := (.agg (va.map (eI .u64)))) (svG rfl rfl h12 (d_load rfl (ldA (E := (eI .u64)) (l := va) ti84 rfl rfl (arr_len h_11)))) ?_
    refine tS (v := (.agg (x8.map (eI .u64)))) (h' := [some ⟨84, va.map (eI .u64)⟩]) (svG rfl rfl h12 (d_call rfl (Env.add_M rfl Env.one_O))) <| tS (v := (eI .i64 x9)) (h' := [some ⟨84, va.map (eI .u64)⟩]) (svG rfl rfl h12 (d_call rfl Env.add_O)) <| tS (v := (eB (decide (0 ≤ x9)))) (svG rfl rfl h12 (d_bin rfl rfl (bin_geq ..))) <| tS (v := (eB (decide (0 ≤ x9)))) (sv (d_pickF rfl h12 rfl)) <| OpsTo.nil <| Ex.then_mk ?_
    exact hG1 _ _ _ _ (zG [0]) (J1 (decide (0 ≤ x9)) hr)
set_option maxRecDepth 20000 in
set_option maxHeartbeats 1000000 in
theorem sign_Valid_ok (N : Nat) (p : List Int) (r : Bool) (hr : sign_Valid N p = some r) :
    Vm.Fn Tryd.prog 43 [] [(.agg (p.map (eI .u64)))] (eB r) [] := by
  refine fn_ab Tryd.func43 rfl (by kernel_rfl) Tryd.ntmps43 zl rfl (fr := [(0, (.agg (p.map (eI .u64))))]) rfl ?_
  unfold sign_Valid at hr
  refine zq <| wS (v := (.ptr 0 0)) (h' := [some ⟨84, p.map (eI .u64)⟩]) (sv (d_box rfl (flatA (fun _ => rfl)) rfl rfl)) <| wS (v := (eB false)) (sv (d_assign rfl)) <| zn ?_
  refine AB.seq_g fun K1 hK1 hG1 => ?_
  have J1 : ∀ (x2 : Bool), sign_Valid_J1 N x2 = some r → K1 (mkF 10 [(2, (eB x2))]) [] := by
    intro x2 hr
    unfold sign_Valid_J1 at hr
    refine hK1 _ _ <| AB.ret ?_
    obtain rfl := Option.some.inj hr
    exact done_ret (r1 := (eB x2)) (res1 Tryd.results43 (rvT rfl)) (zG [])
  replace hr := bnd hr; obtain ⟨q, h_1, hr⟩ := hr
  replace hr := bnd hr; obtain ⟨x4, h_2, hr⟩ := hr
  replace hr := bnd hr; obtain ⟨q_1, h_4, hr⟩ := hr
  rcases Bool.eq_false_or_eq_true (!(p == x4)) with h5 | h5
  · replace hr := iteT hr h5
    replace hr := bnd hr; obtain ⟨x8, h_6, hr⟩ := hr
    have hc3 : Vm.Fn Tryd.prog 47 [some ⟨84, p.map (eI .u64)⟩] [(eI .u64 1)] (.agg (x4.map (eI .u64))) [some ⟨84, p.map (eI .u64)⟩] := (Vm.Fn.pure (wide_FromUint_ok N 1 x4 h_2) rfl zR)
    have hc7 : Vm.Fn Tryd.prog 48 [some ⟨84, p.map (eI .u64)⟩] [(.agg (p.map (eI .u64)))] (eB x8) [some ⟨84, p.map (eI .u64)⟩] := (Vm.Fn.pure (group_Member_ok N p x8 h_6) zR rfl)
    refine AB.rg (Env.add (Env.one mixed hc3 allF (fun _ _ => rfl)) hc7 allF (fun _ _ => rfl) (fun _ h => h)) (fun _ => by show drawOk allF _ = true; decide +kernel) <| tS (v := (.agg (p.map (eI .u64)))) (sv (d_load rfl (ldA (E := (eI .u64)) (l := p) ti84 rfl rfl (arr_len h_1)))) <| tS (v := (.agg (x4.map (eI .u64)))) (h' := [some ⟨84, p.map (eI .u64)⟩]) (sv (d_call rfl (Env.add_M rfl Env.one_O))) <| tS (sv (d_bin rfl rfl (bin_neqA _ _ ti84 ti75 rfl dep (arr_len h_1) (arr_len h_4)))) <| tS (sv (d_move rfl)) ?_
    refine tS (v := (.agg (p.map (eI .u64)))) (svG rfl rfl h5 (d_load rfl (ldA (E := (eI .u64)) (l := p) ti84 rfl rfl (arr_len h_1)))) <| tS (v := (eB x8)) (h' := [some ⟨84, p.map (eI .u64)⟩]) (svG rfl rfl h5 (d_call rfl Env.add_O)) <| tS (v := (eB x8)) (sv (d_pickT rfl h5 rfl)) <| tS (sv (d_assign rfl)) <| OpsTo.nil <| Ex.then_mk ?_
    exact hG1 _ _ _ _ (zG []) (J1 x8 hr)
  · replace hr := iteF hr h5
    have hc3 : Vm.Fn Tryd.prog 47 [some ⟨84, p.map (eI .u64)⟩] [(eI .u64 1)] (.agg (x4.map (eI .u64))) [some ⟨84, p.map (eI .u64)⟩] := (Vm.Fn.pure (wide_FromUint_ok N 1 x4 h_2) rfl zR)
    refine AB.rg (Env.one mixed hc3 allF (fun _ _ => rfl)) (fun _ => by show drawOk allF _ = true; decide +kernel) <| tS (v := (.agg (p.map (eI .u64)))) (sv (d_load rfl (ldA (E := (eI .u64)) (l := p) ti84 rfl rfl (arr_len h_1)))) <| tS (v := (.agg (x4.map (eI .u64)))) (h' := [some ⟨84, p.map (eI .u64)⟩]) (sv (d_call rfl Env.one_O)) <| tS (sv (d_bin rfl rfl (bin_neqA _ _ ti84 ti75 rfl dep (arr_len h_1) (arr_len h_4)))) <| tS (sv (d_move rfl)) <| tS (svX rfl rfl h5) <| tS (svX rfl rfl h5) <| tS (v := (eB false)) (sv (d_pickF rfl h5 rfl)) <| tS (sv (d_assign rfl)) <| OpsTo.nil <| Ex.then_mk ?_
    exact hG1 _ _ _ _ (zG []) (J1 false hr)
set_option maxRecDepth 20000 in
set_option maxHeartbeats 1000000 in
theorem sign_scalar_ok (N : Nat) (va : List Int) (r : Bool) (hr : sign_scalar N va = some r) :
    Vm.Fn Tryd.prog 49 [] [(.agg (va.map (eI .u64)))] (eB r) [] := by
  refine fn_ab Tryd.func49 rfl (by kernel_rfl) Tryd.ntmps49 zl rfl (fr := [(0, (.agg (va.map (eI .u64))))]) rfl ?_
  unfold sign_scalar at hr
  refine zq <| wS (v := (.ptr 0 0)) (h' := [some ⟨84, va.map (eI .u64)⟩]) (sv (d_box rfl (flatA (fun _ => rfl)) rfl rfl)) <| wS (v := (eB false)) (sv (d_assign rfl)) <| zn <| AB.seq ?_
  replace hr := bnd hr; obtain ⟨q, h_1, hr⟩ := hr
  replace hr := bnd hr; obtain ⟨x4, h_2, hr⟩ := hr
  replace hr := bnd hr; obtain ⟨x5, h_4, hr⟩ := hr
  have hc3 : Vm.Fn Tryd.prog 51 [some ⟨84, va.map (eI .u64)⟩] [] (.agg (x4.map (eI .u64))) [some ⟨84, va.map (eI .u64)⟩] := (Vm.Fn.pure (group_Order_ok N x4 h_2) rfl zR)
  have hc5 : Vm.Fn Tryd.prog 56 [some ⟨84, va.map (eI .u64)⟩] [(.agg (va.map (eI .u64))), (.agg (x4.map (eI .u64)))] (eI .i64 x5) [some ⟨84, va.map (eI .u64)⟩] := (Vm.Fn.pure (wide_Cmp_ok N va x4 x5 h_4) zR rfl)
  refine AB.rg (Env.add (Env.one mixed hc3 allF (fun _ _ => rfl)) hc5 allF (fun _ _ => rfl) (fun _ h => h)) (fun _ => by show drawOk allF _ = true; decide +kernel) <| tS (v := (.agg (va.map (eI .u64)))) (sv (d_load rfl (ldA (E := (eI .u64)) (l := va) ti84 rfl rfl (arr_len h_1)))) <| tS (v := (.agg (x4.map (eI .u64)))) (h' := [some ⟨84, va.map (eI .u64)⟩]) (sv (d_call rfl (Env.add_M rfl Env.one_O))) <| tS (v := (eI .i64 x5)) (h' := [some ⟨84, va.map (eI .u64)⟩]) (sv (d_call rfl Env.add_O)) <| tS (v := (eB (decide (x5 < 0)))) (sv (d_bin rfl rfl (bin_lss ..))) <| tS (sv (d_assign rfl)) <| OpsTo.nil ?_
  refine Ex.then_mk <| AB.ret ?_
  obtain rfl := Option.some.inj hr
  exact done_ret (r1 := (eB (decide (x5 < 0)))) (res1 Tryd.results49 (rvT rfl)) (zG [])
set_option maxRecDepth 20000 in
set_option maxHeartbeats 1000000 in
theorem sign_Decode_ok (N : Nat) (b : List Int) (r : (List Int) × (List Int) × Int) (hr : sign_Decode N b = some r) :
    Vm.Fn Tryd.prog 44 [] [(.row none 1 (b.map (eI .u8)))] (.tup [(.agg (ar4 (eI .u64) r.1 (ar4 (eI .u64) r.2.1 []))), (eI .i64 r.2.2)]) [] := by
  refine fn_ab Tryd.func44 rfl (by kernel_rfl) Tryd.ntmps44 zl rfl (fr := [(0, (.row none 1 (b.map (eI .u8))))]) rfl ?_
  unfold sign_Decode at hr
  refine zq <| wS (v := (.ptr 0 0)) (h' := [some ⟨88, (ar4 (eI .u64) (List.replicate 4 0) (ar4 (eI .u64) (List.replicate 4 0) []))⟩]) (sv (d_alloc ti88 rfl rfl rfl)) <| wS (v := (eI .i64 0)) (sv (d_assign rfl)) <| zn <| AB.seq <| zq <| zm rfl <| wS (v := (eI .i64 (b.length : Int))) (sv (d_len rfl (lenR ti22))) <| wS (v := (eB ((b.length : Int) != 64))) (sv (d_bin rfl rfl (bin_neq ..))) <| zn ?_
  refine AB.cnd rfl (fun h1 => ?_) (fun h1 => ?_)
  · replace hr := iteT hr h1
    refine zq <| wS (v := (.agg (ar4 (eI .u64) (List.replicate 4 0) (ar4 (eI .u64) (List.replicate 4 0) [])))) (sv (d_build rfl (bldS ti88 pl88 rfl))) <| wN (h' := [some ⟨88, (ar4 (eI .u64) (List.replicate 4 0) (ar4 (eI .u64) (List.replicate 4 0) []))⟩]) (sv (d_store rfl rfl (stP ti88 rfl rfl rfl zl rfl))) <| wS (v := (eI .i64 8)) (sv (d_assign rfl)) <| zn <| AB.ret <| Ex.then_ret_mk ?_
    obtain rfl := Option.some.inj hr
    exact done_ret (r1 := (.tup [(.agg (ar4 (eI .u64) (List.replicate 4 0) (ar4 (eI .u64) (List.replicate 4 0) []))), (eI .i64 8)])) (res2 Tryd.results44 (rvC rfl (ldP rfl (partN (ds := (ar4 (eI .u64) (List.replicate 4 0) (ar4 (eI .u64) (List.replicate 4 0) []))) ti88 rfl zl rfl))) (rvT rfl)) (zG [])
  · replace hr := iteF hr h1
    refine AB.skip <| Ex.then_mk <| AB.seq ?_
    replace hr := bnd hr; obtain ⟨x10, h_2, hr⟩ := hr
    replace hr := bnd hr; obtain ⟨x11, h_3, hr⟩ := hr
    replace hr := bnd hr; obtain ⟨x13, h_4, hr⟩ := hr
    replace hr := bnd hr; obtain ⟨x15, h_6, hr⟩ := hr
    replace hr := bnd hr; obtain ⟨x16, h_7, hr⟩ := hr
    replace hr := bnd hr; obtain ⟨x18, h_8, hr⟩ := hr
    replace hr := bnd hr; obtain ⟨q, h_10, hr⟩ := hr
    replace hr := bnd hr; obtain ⟨q_1, h_11, hr⟩ := hr
    refine AB.rd (memF [42]) (memF []) mixed <| DrawG.pick (n := 12) (i := 0) (by decide +kernel) rfl (gS (v := (.row none 1 (b.map (eI .u8)))) (sv (d_move rfl))) <| DrawG.pick (n := 11) (i := 1) (by decide +kernel) rfl (gS (v := (.row none 1 (x10.map (eI .u8)))) (sv (d_slice rfl rfl rfl (slR ti22 ti5 rfl rfl h_2)))) <| DrawG.pick (n := 10) (i := 2) (by decide +kernel) rfl (gS (v := (.eptr [.agg (x11.map (eI .u8))] 0 0)) (sv (d_sap rfl (apR (E := (eI .u8)) ti25 (fun _ => rfl) zl h_3)))) ?_
    refine DrawG.pick (n := 9) (i := 3) (by decide +kernel) rfl (gS (v := (.agg (x11.map (eI .u8)))) (sv (d_load rfl (ldAE (E := (eI .u8)) (l := x11) ti25 rfl (arp_len h_3))))) <| DrawG.pick (n := 8) (i := 4) (by decide +kernel) rfl (gU (fun _ => (Vm.Fn.pure (wide_FromBytes_ok N x11 x13 h_4) zR zR)) rfl (sv (d_call rfl orcU_hit))) <| DrawG.pick (n := 7) (i := 5) (by decide +kernel) rfl (gS (v := (.row none 1 (b.map (eI .u8)))) (sv (d_move rfl))) <| DrawG.pick (n := 6) (i := 6) (by decide +kernel) rfl (gS (v := (.row none 1 (x15.map (eI .u8)))) (sv (d_slice rfl rfl rfl (slR ti22 ti5 rfl rfl h_6)))) ?_
    refine DrawG.pick (n := 5) (i := 7) (by decide +kernel) rfl (gS (v := (.eptr [.agg (x16.map (eI .u8))] 0 0)) (sv (d_sap rfl (apR (E := (eI .u8)) ti25 (fun _ => rfl) zl h_7)))) <| DrawG.pick (n := 4) (i := 8) (by decide +kernel) rfl (gS (v := (.agg (x16.map (eI .u8)))) (sv (d_load rfl (ldAE (E := (eI .u8)) (l := x16) ti25 rfl (arp_len h_7))))) <| DrawG.pick (n := 3) (i := 9) (by decide +kernel) rfl (gU (fun _ => (Vm.Fn.pure (wide_FromBytes_ok N x16 x18 h_8) zR zR)) rfl (sv (d_call rfl orcU_hit))) ?_
    refine DrawG.pick (n := 2) (i := 10) (by decide +kernel) rfl (gS (v := (.agg (ar4 (eI .u64) x13 (ar4 (eI .u64) x18 [])))) (sv (d_build rfl (bldE (ps' := [(0, (.agg (ar4 (eI .u64) x13 []))), (1, (.agg (ar4 (eI .u64) x18 [])))]) (by simp only [ar4_nil (l := x13) (arr_len h_10), ar4_nil (l := x18) (arr_len h_11)]) (bldS ti88 pl88 rfl))))) ?_
    refine DrawG.pick (n := 1) (i := 11) (by decide +kernel) rfl (gS (v := (.ptr 1 0)) (h' := [some ⟨88, (ar4 (eI .u64) (List.replicate 4 0) (ar4 (eI .u64) (List.replicate 4 0) []))⟩, some ⟨88, (ar4 (eI .u64) (List.replicate 4 0) (ar4 (eI .u64) (List.replicate 4 0) []))⟩]) (sv (d_alloc ti88 rfl rfl rfl))) <| DrawG.pick (n := 0) (i := 12) (by decide +kernel) rfl (gN (h' := [some ⟨88, (ar4 (eI .u64) (List.replicate 4 0) (ar4 (eI .u64) (List.replicate 4 0) []))⟩, some ⟨88, (ar4 (eI .u64) x13 (ar4 (eI .u64) x18 []))⟩]) (sv (d_store rfl rfl (stP ti88 rfl rfl rfl zl rfl)))) <| DrawG.nil (by decide +kernel) ?_
    refine Ex.then_mk <| AB.seq ?_
    refine AB.seq_g fun K1 hK1 hG1 => ?_
    have J1 : ∀ (x29 : Bool), sign_Decode_J1 N x13 x18 x29 = some r → K1 (mkF 32 [(2, (.ptr 0 0)), (4, (.ptr 1 0)), (29, (eB x29))]) [some ⟨88, (ar4 (eI .u64) (List.replicate 4 0) (ar4 (eI .u64) (List.replicate 4 0) []))⟩, some ⟨88, (ar4 (eI .u64) x13 (ar4 (eI .u64) x18 []))⟩] := by
      intro x29 hr
      unfold sign_Decode_J1 at hr
      refine hK1 _ _ ?_
      refine AB.cnd rfl (fun h12 => ?_) (fun h12 => ?_)
      · replace hr := iteT hr h12
        refine zq <| wS (v := (.agg (ar4 (eI .u64) (List.replicate 4 0) (ar4 (eI .u64) (List.replicate 4 0) [])))) (sv (d_build rfl (bldS ti88 pl88 rfl))) <| wN (h' := [some ⟨88, (ar4 (eI .u64) (List.replicate 4 0) (ar4 (eI .u64) (List.replicate 4 0) []))⟩, some ⟨88, (ar4 (eI .u64) x13 (ar4 (eI .u64) x18 []))⟩]) (sv (d_store rfl rfl (stP ti88 rfl rfl rfl zl rfl))) <| wS (v := (eI .i64 5)) (sv (d_assign rfl)) <| zn <| AB.ret <| Ex.then_ret_mk ?_
        obtain rfl := Option.some.inj hr
        exact done_ret (r1 := (.tup [(.agg (ar4 (eI .u64) (List.replicate 4 0) (ar4 (eI .u64) (List.replicate 4 0) []))), (eI .i64 5)])) (res2 Tryd.results44 (rvC rfl (ldP rfl (partN (ds := (ar4 (eI .u64) (List.replicate 4 0) (ar4 (eI .u64) (List.replicate 4 0) []))) ti88 rfl zl rfl))) (rvT rfl)) (zG [])
      · replace hr := iteF hr h12
        refine AB.skip <| Ex.then_mk <| zq <| wS (v := (.agg (ar4 (eI .u64) x13 (ar4 (eI .u64) x18 [])))) (sv (d_load rfl (ldP rfl (partN (ds := (ar4 (eI .u64) x13 (ar4 (eI .u64) x18 []))) ti88 rfl zl rfl)))) <| wN (h' := [some ⟨88, (ar4 (eI .u64) x13 (ar4 (eI .u64) x18 []))⟩, some ⟨88, (ar4 (eI .u64) x13 (ar4 (eI .u64) x18 []))⟩]) (sv (d_store rfl rfl (stP ti88 rfl rfl rfl zl rfl))) <| wS (v := (eI .i64 0)) (sv (d_assign rfl)) <| zn <| AB.ret ?_
        obtain rfl := Option.some.inj hr
        exact done_ret (r1 := (.tup [(.agg (ar4 (eI .u64) x13 (ar4 (eI .u64) x18 []))), (eI .i64 0)])) (res2 Tryd.results44 (rvC rfl (ldP rfl (partN (ds := (ar4 (eI .u64) x13 (ar4 (eI .u64) x18 []))) ti88 rfl zl rfl))) (rvT rfl)) (zG [])
    replace hr := bnd hr; obtain ⟨x22, h_13, hr⟩ := hr
    rcases Bool.eq_false_or_eq_true (!x22) with h14 | h14
    · replace hr := iteT hr h14
      refine AB.rw <| wS (v := (.ptr 1 0)) (sv (d_fa rfl (fap88_0 ..))) <| wS (v := (.agg (x13.map (eI .u64)))) (sv (d_load rfl (ldP rfl (to4 (arr_len h_10) (partN (ds := (ar4 (eI .u64) x13 [])) ti84 rfl zl rfl))))) <| wC rfl (Vm.Fn.pure (sign_scalar_ok N x13 x22 h_13) zR rfl) <| wS (sv (d_un rfl (un_not _ _))) <| zm rfl <| wS (svX rfl rfl h14) <| wS (svX rfl rfl h14) <| wS (svX rfl rfl h14) <| wS (svX rfl rfl h14) <| wS (v := (eB true)) (sv (d_pickT rfl h14 rfl)) <| zn ?_
      exact hG1 _ _ _ _ (zG [0, 1]) (J1 true hr)
    · replace hr := iteF hr h14
      replace hr := bnd hr; obtain ⟨x27, h_15, hr⟩ := hr
      refine AB.rw <| wS (v := (.ptr 1 0)) (sv (d_fa rfl (fap88_0 ..))) <| wS (v := (.agg (x13.map (eI .u64)))) (sv (d_load rfl (ldP rfl (to4 (arr_len h_10) (partN (ds := (ar4 (eI .u64) x13 [])) ti84 rfl zl rfl))))) <| wC rfl (Vm.Fn.pure (sign_scalar_ok N x13 x22 h_13) zR rfl) <| wS (sv (d_un rfl (un_not _ _))) <| zm rfl <| wS (v := (.ptr 1 4)) (svG rfl rfl h14 (d_fa rfl (fap88_1 ..))) <| wS (v := (.agg (x18.map (eI .u64)))) (svG rfl rfl h14 (d_load rfl (ldP rfl (to4 (arr_len h_11) (partN (ds := (ar4 (eI .u64) x18 [])) ti84 rfl zl rfl))))) ?_
      refine wCG (v := (eB x27)) (h' := [some ⟨88, (ar4 (eI .u64) (List.replicate 4 0) (ar4 (eI .u64) (List.replicate 4 0) []))⟩, some ⟨88, (ar4 (eI .u64) x13 (ar4 (eI .u64) x18 []))⟩]) rfl rfl h14 rfl (Vm.Fn.pure (sign_scalar_ok N x18 x27 h_15) zR rfl) <| wS (svG rfl rfl h14 (d_un rfl (un_not _ _))) <| wS (v := (eB (!x27))) (sv (d_pickF rfl h14 rfl)) <| zn ?_
      exact hG1 _ _ _ _ (zG [0, 1]) (J1 (!x27) hr)
set_option maxRecDepth 20000 in
set_option maxHeartbeats 1000000 in
theorem group_Power_ok (N : Nat) (ve : List Int) (r : (List Int)) (hr : group_Power N ve = some r) :
    Vm.Fn Tryd.prog 53 [] [(.agg (ve.map (eI .u64)))] (.agg (r.map (eI .u64))) [] := by
  refine fn_ab Tryd.func53 rfl (by kernel_rfl) Tryd.ntmps53 zl rfl (fr := [(0, (.agg (ve.map (eI .u64))))]) rfl ?_
  unfold group_Power at hr
  refine zq <| wS (v := (.ptr 0 0)) (h' := [some ⟨84, ve.map (eI .u64)⟩]) (sv (d_box rfl (flatA (fun _ => rfl)) rfl rfl)) <| wS (v := (.ptr 1 0)) (h' := [some ⟨84, ve.map (eI .u64)⟩, some ⟨84, (List.replicate 4 0).map (eI .u64)⟩]) (sv (d_alloc ti84 rfl rfl rfl)) <| zn <| AB.seq ?_
  replace hr := bnd hr; obtain ⟨x3, h_1, hr⟩ := hr
  replace hr := bnd hr; obtain ⟨q, h_3, hr⟩ := hr
  replace hr := bnd hr; obtain ⟨x5, h_4, hr⟩ := hr
  replace hr := bnd hr; obtain ⟨q_1, h_6, hr⟩ := hr
  have hc2 : Vm.Fn Tryd.prog 47 [some ⟨84, ve.map (eI .u64)⟩, some ⟨84, (List.replicate 4 0).map (eI .u64)⟩] [(eI .u64 4)] (.agg (x3.map (eI .u64))) [some ⟨84, ve.map (eI .u64)⟩, some ⟨84, (List.replicate 4 0).map (eI .u64)⟩] := (Vm.Fn.pure (wide_FromUint_ok N 4 x3 h_1) rfl zR)
  have hc5 : Vm.Fn Tryd.prog 54 [some ⟨84, ve.map (eI .u64)⟩, some ⟨84, (List.replicate 4 0).map (eI .u64)⟩] [(.agg (x3.map (eI .u64))), (.agg (ve.map (eI .u64)))] (.agg (x5.map (eI .u64))) [some ⟨84, ve.map (eI .u64)⟩, some ⟨84, (List.replicate 4 0).map (eI .u64)⟩] := (Vm.Fn.pure (group_Exp_ok N x3 ve x5 h_4) zR zR)
  refine AB.rg (Env.add (Env.one mixed hc2 allF (fun _ _ => rfl)) hc5 allF (fun _ _ => rfl) (fun _ h => h)) (fun _ => by show drawOk allF _ = true; decide +kernel) <| tS (v := (.agg (x3.map (eI .u64)))) (h' := [some ⟨84, ve.map (eI .u64)⟩, some ⟨84, (List.replicate 4 0).map (eI .u64)⟩]) (sv (d_call rfl (Env.add_M rfl Env.one_O))) <| tS (v := (.agg (ve.map (eI .u64)))) (sv (d_load rfl (ldA (E := (eI .u64)) (l := ve) ti84 rfl rfl (arr_len h_3)))) <| tS (v := (.agg (x5.map (eI .u64)))) (h' := [some ⟨84, ve.map (eI .u64)⟩, some ⟨84, (List.replicate 4 0).map (eI .u64)⟩]) (sv (d_call rfl Env.add_O)) ?_
  refine tN (h' := [some ⟨84, ve.map (eI .u64)⟩, some ⟨84, x5.map (eI .u64)⟩]) (sv (d_store rfl rfl (stA (E := (eI .u64)) (l := List.replicate 4 0) ti84 rfl rfl (fun _ => rfl) rfl (arr_len h_6) rfl))) <| OpsTo.nil <| Ex.then_mk <| AB.ret ?_
  obtain rfl := Option.some.inj hr
  exact done_ret (r1 := (.agg (x5.map (eI .u64)))) (res1 Tryd.results53 (rvC rfl (ldA (E := (eI .u64)) (l := x5) ti84 rfl rfl (arr_len h_6)))) (zG [])
set_option maxRecDepth 20000 in
set_option maxHeartbeats 1000000 in
theorem wide_Bytes_ok (N : Nat) (va : List Int) (r : (List Int)) (hr : wide_Bytes N va = some r) :
    Vm.Fn Tryd.prog 64 [] [(.agg (va.map (eI .u64)))] (.agg (r.map (eI .u8))) [] := by
  refine fn_ab Tryd.func64 rfl (by kernel_rfl) Tryd.ntmps64 zl rfl (fr := [(0, (.agg (va.map (eI .u64))))]) rfl ?_
  unfold wide_Bytes at hr
  refine zq <| wS (v := (.ptr 0 0)) (h' := [some ⟨84, va.map (eI .u64)⟩]) (sv (d_box rfl (flatA (fun _ => rfl)) rfl rfl)) <| wS (v := (.ptr 1 0)) (h' := [some ⟨84, va.map (eI .u64)⟩, some ⟨25, (List.replicate 32 0).map (eI .u8)⟩]) (sv (d_alloc ti25 rfl rfl rfl)) <| zn <| zq <| wS (v := (.ptr 2 0)) (h' := [some ⟨84, va.map (eI .u64)⟩, some ⟨25, (List.replicate 32 0).map (eI .u8)⟩, some ⟨25, (List.replicate 32 0).map (eI .u8)⟩]) (sv (d_alloc ti25 rfl rfl rfl)) <| zn ?_
  refine AB.seq_g fun K1 hK1 hG1 => ?_
  have J1 : ∀ (l1 : List Int), wide_Bytes_J1 N l1 = some r → K1 (mkF 23 [(2, (.ptr 0 0)), (3, (.ptr 1 0))]) [some ⟨25, (List.replicate 32 0).map (eI .u8)⟩, some ⟨25, l1.map (eI .u8)⟩] := by
    intro l1 hr
    unfold wide_Bytes_J1 at hr
    refine hK1 _ _ <| AB.seq ?_
    replace hr := bnd hr; obtain ⟨q, h_1, hr⟩ := hr
    refine AB.rw <| wS (v := (.agg (l1.map (eI .u8)))) (sv (d_load rfl (ldA (E := (eI .u8)) (l := l1) ti25 rfl rfl (arr_len h_1)))) <| wN (h' := [some ⟨25, l1.map (eI .u8)⟩, some ⟨25, l1.map (eI .u8)⟩]) (sv (d_store rfl rfl (stA (E := (eI .u8)) (l := List.replicate 32 0) ti25 rfl rfl (fun _ => rfl) rfl (arr_len h_1) rfl))) <| zn <| AB.ret ?_
    obtain rfl := Option.some.inj hr
    exact done_ret (r1 := (.agg (l1.map (eI .u8)))) (res1 Tryd.results64 (rvC rfl (ldA (E := (eI .u8)) (l := l1) ti25 rfl rfl (arr_len h_1)))) (zG [])
  refine zq <| wS (v := (eI .i64 0)) (sv (d_move rfl)) <| zn ?_
  replace hr := bnd hr; obtain ⟨res2, hL2, hr⟩ := hr
  refine AB.block <| AB.loopN (fun m s h => ∃ (x5 : Int) (l2 : List Int), wide_Bytes_L2 N va m x5 l2 = some res2 ∧ Ghost 0 s h (mkF 23 [(1, (.ptr 0 0)), (2, (.ptr 1 0)), (3, (.ptr 2 0)), (5, (eI .i64 x5))]) [some ⟨84, va.map (eI .u64)⟩, some ⟨25, (List.replicate 32 0).map (eI .u8)⟩, some ⟨25, l2.map (eI .u8)⟩]) (n := N) ⟨0, List.replicate 32 0, hL2, (zG [0, 1, 2])⟩ (by rintro s h ⟨_, _, h0, _⟩; simp [wide_Bytes_L2] at h0) ?_
  rintro m2 s h ⟨x5, l2, hr2, hg⟩
  refine AB.ghost hg ?_
  clear hg hL2
  rw [wide_Bytes_L2] at hr2
  refine zq <| wS (v := (eB (decide (x5 < 32)))) (sv (d_bin rfl rfl (bin_lss ..))) <| zn <| AB.seq ?_
  refine AB.cnd rfl (fun h2 => ?_) (fun h2 => ?_)
  · replace hr2 := iteT hr2 h2
    refine AB.skip <| Ex.then_mk <| AB.seq <| AB.block <| zq <| zm rfl <| za rfl <| zn ?_
    replace hr2 := bnd hr2; obtain ⟨x12, h_3, hr2⟩ := hr2
    replace hr2 := bnd hr2; obtain ⟨x18, h_4, hr2⟩ := hr2
    replace hr2 := bnd hr2; obtain ⟨x20, h_5, hr2⟩ := hr2
    refine AB.rw <| zm rfl <| zm rfl <| wS (v := (eI .i64 (IntKind.i64.wrap (Int.tdiv x5 8)))) (sv (d_bin rfl rfl (bin_quo' _ _ _ _ rfl))) <| wS (v := (eI .i64 (IntKind.i64.wrap (3 - (IntKind.i64.wrap (Int.tdiv x5 8)))))) (sv (d_bin rfl rfl (bin_sub ..))) <| wS (v := (.ptr 0 (Int.toNat (IntKind.i64.wrap (3 - (IntKind.i64.wrap (Int.tdiv x5 8))))))) (sv (d_ia rfl rfl (iaB ti84 ti75 rfl h_3))) <| wS (v := (eI .u64 x12)) (sv (d_load rfl (ldX (E := (eI .u64)) (y := x12) ti75 rfl rfl (aix_idx h_3)))) <| zm rfl <| wS (v := (eI .i64 (Int.tmod x5 8))) (sv (d_bin rfl rfl (bin_rem' _ _ _ _ rfl))) ?_
    refine wS (v := (eI .i64 (IntKind.i64.wrap ((Int.tmod x5 8) * 8)))) (sv (d_bin rfl rfl (bin_mul ..))) <| wS (v := (eI .i64 (IntKind.i64.wrap (56 - (IntKind.i64.wrap ((Int.tmod x5 8) * 8)))))) (sv (d_bin rfl rfl (bin_sub ..))) <| wS (sv (d_bin rfl rfl (bin_shr' _ _ _ _ h_4))) <| wS (sv (d_conv rfl (conv_int _ ⟨_, ti75⟩ ti5 rfl))) <| wS (v := (.ptr 2 (Int.toNat x5))) (sv (d_ia rfl rfl (iaB ti25 ti5 rfl h_5))) ?_
    refine wN (h' := [some ⟨84, va.map (eI .u64)⟩, some ⟨25, (List.replicate 32 0).map (eI .u8)⟩, some ⟨25, (l2.set (Int.toNat x5) (IntKind.u8.wrap x18)).map (eI .u8)⟩]) (sv (d_store rfl rfl (stXe (E := (eI .u8)) (y := IntKind.u8.wrap x18) ti5 rfl rfl (aix_idx h_5) rfl rfl rfl))) <| OpsW.nil <| Ex.inBlock_mk <| Ex.then_mk <| AB.rw <| wS (v := (eI .i64 (IntKind.i64.wrap (x5 + 1)))) (sv (d_bin rfl rfl (bin_add ..))) <| zm rfl <| zn ?_
    exact ⟨IntKind.i64.wrap (x5 + 1), l2.set (Int.toNat x5) (IntKind.u8.wrap x18), hr2, (zG [0, 1, 2])⟩
  · replace hr2 := iteF hr2 h2
    refine AB.exit <| Ex.then_exit_mk <| Ex.then_exit_mk <| Ex.inBlock_same_mk ?_
    obtain rfl := Option.some.inj hr2
    refine Ex.then_mk ?_
    exact hG1 _ _ _ _ (zG [1, 2]) (J1 l2 hr)
set_option maxRecDepth 20000 in
set_option maxHeartbeats 1000000 in
theorem sign_row_ok (N : Nat) (parts : List (List Int)) (r : (List Int)) (hr : sign_row N parts = some r) :
    Vm.Fn Tryd.prog 63 [] [(.row none 32 (parts.map (eA (eI .u8))))] (.sl 0 0 r.length 1 false) [some ⟨5, r.map (eI .u8)⟩] := by
  refine fn_ab Tryd.func63 rfl (by kernel_rfl) Tryd.ntmps63 zl rfl (fr := [(0, (.row none 32 (parts.map (eA (eI .u8)))))]) rfl ?_
  unfold sign_row at hr
  refine zq <| wS (v := (.row (some true) 1 [])) (sv (d_assign rfl)) <| zn <| zq <| wS (v := (.row (some true) 1 [])) (sv (d_assign rfl)) <| zn ?_
  refine AB.seq_g fun K1 hK1 hG1 => ?_
  have J1 : ∀ (l0 : List Int), sign_row_J1 N l0 = some r → K1 (mkF 17 [(3, (.sl 0 0 l0.length 1 false))]) [some ⟨5, l0.map (eI .u8)⟩] := by
    intro l0 hr
    unfold sign_row_J1 at hr
    refine hK1 _ _ <| zq <| zm rfl <| za rfl <| zn <| AB.ret ?_
    obtain rfl := Option.some.inj hr
    exact done_ret (r1 := (.sl 0 0 l0.length 1 false)) (res1 Tryd.results63 (rvT rfl)) (zG [0])
  refine zq <| zm rfl <| wS (v := (eI .i64 (parts.length : Int))) (sv (d_len rfl (lenR ti112))) <| wS (v := (eI .i64 0)) (sv (d_move rfl)) <| zn ?_
  replace hr := bnd hr; obtain ⟨res2, hL2, hr⟩ := hr
  refine AB.block ?_
  refine AB.loopN (fun m s h => ∃ (x8 : Int) (l0_1 : List Int), sign_row_L2 N parts m x8 l0_1 = some res2 ∧ Ghost 0 s h (mkF 17 [(3, (.sl 0 0 l0_1.length 1 false)), (6, (.row none 32 (parts.map (eA (eI .u8))))), (7, (eI .i64 (parts.length : Int))), (8, (eI .i64 x8))]) [some ⟨5, l0_1.map (eI .u8)⟩]) (n := N) ⟨0, [], hL2, (Ghost.trans (Ghost.virt (fr' := [(3, (.sl 0 0 0 1 false)), (6, (.row none 32 (parts.map (eA (eI .u8))))), (7, (eI .i64 (parts.length : Int))), (8, (eI .i64 0))]) (h1 := []) 5 (FLe.le rfl (V.le_virt rfl) (FLe.same rfl (FLe.same rfl (FLe.same rfl FLe.nil)))) HLv.nil) (Ghost.rn [0] rfl rfl (FLe.le rfl (by first | exact V.le_refl _ _ | (simp only [len_set, len_cpy]; exact V.le_refl _ _)) (FLe.same rfl (FLe.same rfl (FLe.same rfl FLe.nil)))) (HLe.live rfl V.les_nil rfl HLe.nil) rfl))⟩ (by rintro s h ⟨_, _, h0, _⟩; simp [sign_row_L2] at h0) ?_
  rintro m2 s h ⟨x8, l0_1, hr2, hg⟩
  refine AB.ghost hg ?_
  clear hg hL2
  rw [sign_row_L2] at hr2
  refine zq <| wS (sv (d_bin rfl rfl (bin_lss ..))) <| zn <| AB.seq ?_
  refine AB.cnd rfl (fun h1 => ?_) (fun h1 => ?_)
  · replace hr2 := iteT hr2 h1
    refine AB.skip <| Ex.then_mk <| AB.seq <| AB.block <| AB.seq ?_
    replace hr2 := bnd hr2; obtain ⟨x10, h_2, hr2⟩ := hr2
    replace hr2 := bnd hr2; obtain ⟨q, h_3, hr2⟩ := hr2
    refine AB.rw <| wS (sv (d_ia rfl rfl (iaR ti112 ti25 h_2))) <| wS (v := (.agg (x10.map (eI .u8)))) (sv (d_load rfl (ldRA (E := (eI .u8)) ti25 rfl h_2 (arr_len h_3)))) <| wS (v := (.ptr 1 0)) (h' := [some ⟨5, l0_1.map (eI .u8)⟩, some ⟨25, (List.replicate 32 0).map (eI .u8)⟩]) (sv (d_alloc ti25 rfl rfl rfl)) <| wN (h' := [some ⟨5, l0_1.map (eI .u8)⟩, some ⟨25, x10.map (eI .u8)⟩]) (sv (d_store rfl rfl (stA (E := (eI .u8)) (l := List.replicate 32 0) ti25 rfl rfl (fun _ => rfl) rfl (arr_len h_3) rfl))) <| zn ?_
    replace hr2 := bnd hr2; obtain ⟨x14, h_4, hr2⟩ := hr2
    refine AB.rw <| zm rfl <| wS (v := (.sl 1 0 32 1 false)) (sv (d_slice rfl rfl rfl (slA (E := (eI .u8)) (l := x10) ti25 ti5 rfl rfl rfl (arr_len h_3) ⟨zl, zl⟩))) <| wS (v := (.sl 2 0 x14.length 1 false)) (h' := [none, some ⟨25, x10.map (eI .u8)⟩, some ⟨5, x14.map (eI .u8)⟩]) (sv (d_append rfl rfl (appS (E := (eI .u8)) rfl ti22 ti5 ⟨rfl, rfl, zl⟩ rfl (srcS (arr_len h_3) rfl) h_4 rfl rfl))) <| za rfl <| OpsW.nil <| Ex.inBlock_mk <| Ex.then_mk <| AB.rw <| wS (v := (eI .i64 (IntKind.i64.wrap (x8 + 1)))) (sv (d_bin rfl rfl (bin_add ..))) <| zm rfl <| zn ?_
    exact ⟨IntKind.i64.wrap (x8 + 1), x14, hr2, (zG [2])⟩
  · replace hr2 := iteF hr2 h1
    refine AB.exit <| Ex.then_exit_mk <| Ex.then_exit_mk <| Ex.inBlock_same_mk ?_
    obtain rfl := Option.some.inj hr2
    refine Ex.then_mk ?_
    exact hG1 _ _ _ _ (zG [0]) (J1 l0_1 hr)
set_option maxRecDepth 20000 in
set_option maxHeartbeats 1000000 in
theorem sha_Tagged_ok (N : Nat) (tag : ByteArray) (b : List Int) (r : (List Int)) (hr : sha_Tagged N tag b = some r) :
    Vm.Fn Tryd.prog 62 [] [(eS tag), (.row none 1 (b.map (eI .u8)))] (.agg (r.map (eI .u8))) [] := by
  refine fn_ab Tryd.func62 rfl (by kernel_rfl) Tryd.ntmps62 zl rfl (fr := [(0, (eS tag)), (1, (.row none 1 (b.map (eI .u8))))]) rfl ?_
  unfold sha_Tagged at hr
  refine zq <| wS (v := (.ptr 0 0)) (h' := [some ⟨25, (List.replicate 32 0).map (eI .u8)⟩]) (sv (d_alloc ti25 rfl rfl rfl)) <| zn <| AB.seq ?_
  replace hr := bnd hr; obtain ⟨x7, h_1, hr⟩ := hr
  replace hr := bnd hr; obtain ⟨x8, h_2, hr⟩ := hr
  replace hr := bnd hr; obtain ⟨q, h_3, hr⟩ := hr
  refine AB.rw <| zm rfl <| wStr (h' := [some ⟨25, (List.replicate 32 0).map (eI .u8)⟩, some ⟨5, x7.map (eI .u8)⟩]) rfl ti9 ti22 ti5 h_1 rfl rfl <| wC (v := (.agg (x8.map (eI .u8)))) (h' := [some ⟨25, (List.replicate 32 0).map (eI .u8)⟩, some ⟨5, x7.map (eI .u8)⟩]) rfl (zL (sha_Sum_ok N x7 x8 h_2) [] [1]) <| wS (v := (.ptr 2 0)) (h' := [some ⟨25, (List.replicate 32 0).map (eI .u8)⟩, some ⟨5, x7.map (eI .u8)⟩, some ⟨25, (List.replicate 32 0).map (eI .u8)⟩]) (sv (d_alloc ti25 rfl rfl rfl)) ?_
  refine wN (h' := [some ⟨25, (List.replicate 32 0).map (eI .u8)⟩, some ⟨5, x7.map (eI .u8)⟩, some ⟨25, x8.map (eI .u8)⟩]) (sv (d_store rfl rfl (stA (E := (eI .u8)) (l := List.replicate 32 0) ti25 rfl rfl (fun _ => rfl) rfl (arr_len h_3) rfl))) <| zn <| AB.seq ?_
  replace hr := bnd hr; obtain ⟨x13, h_4, hr⟩ := hr
  replace hr := bnd hr; obtain ⟨x14, h_6, hr⟩ := hr
  replace hr := bnd hr; obtain ⟨q_1, h_8, hr⟩ := hr
  refine AB.rd (memF []) (memF [33, 36]) mixed <| DrawG.pick (n := 6) (i := 0) (by decide +kernel) rfl (gS (v := (.sl 2 0 32 1 false)) (sv (d_slice rfl rfl rfl (slA (E := (eI .u8)) (l := x8) ti25 ti5 rfl rfl rfl (arr_len h_3) ⟨zl, zl⟩)))) <| DrawG.pick (n := 5) (i := 1) (by decide +kernel) rfl (gS (v := (.sl 2 0 32 1 false)) (sv (d_slice rfl rfl rfl (slA (E := (eI .u8)) (l := x8) ti25 ti5 rfl rfl rfl (arr_len h_3) ⟨zl, zl⟩)))) <| DrawG.pick (n := 4) (i := 2) (by decide +kernel) rfl (gS (v := (.row none 1 (b.map (eI .u8)))) (sv (d_move rfl))) ?_
  refine DrawG.gh (n := 3) (by decide +kernel) (Ghost.conv (fr' := [(0, (eS tag)), (1, (.row none 1 (b.map (eI .u8)))), (4, (.ptr 0 0)), (5, (.ptr 2 0)), (6, (eS tag)), (7, (.sl 1 0 x7.length 1 false)), (8, (.agg (x8.map (eI .u8)))), (9, (.row none 1 (x8.map (eI .u8)))), (10, (.row none 1 (x8.map (eI .u8)))), (11, (.row none 1 (b.map (eI .u8))))]) (h' := [some ⟨25, (List.replicate 32 0).map (eI .u8)⟩, some ⟨5, x7.map (eI .u8)⟩, none]) (FCv.cons rfl (Conv.same (subB_sub rfl)) (FCv.cons rfl (Conv.same (subB_sub rfl)) (FCv.cons rfl (Conv.same (subB_sub rfl)) (FCv.cons rfl (Conv.same (subB_sub rfl)) (FCv.cons rfl (Conv.same (subB_sub rfl)) (FCv.cons rfl (Conv.same (subB_sub rfl)) (FCv.cons rfl (Conv.same (subB_sub rfl)) (FCv.cons rfl (Conv.row (subB_sub rfl) rfl rfl (all_mapE (fun _ => rfl)) (by first | rfl | (simp only [List.length_map, len_set, len_cpy]; done) | (rw [List.length_map]; exact Eq.symm (arr_len h_3)))) (FCv.cons rfl (Conv.row (subB_sub rfl) rfl rfl (all_mapE (fun _ => rfl)) (by first | rfl | (simp only [List.length_map, len_set, len_cpy]; done) | (rw [List.length_map]; exact Eq.symm (arr_len h_3)))) (FCv.cons rfl (Conv.same (subB_sub rfl)) FCv.nil)))))))))) (HCv.live (Convs.same (subB_sub rfl)) (all_map (fun _ => rfl) _) (HCv.live (Convs.same (subB_sub rfl)) (all_map (fun _ => rfl) _) (HCv.dead HCv.nil)))) ?_
  refine DrawG.pick (n := 3) (i := 3) (by decide +kernel) rfl (gS (v := (.sl 3 0 3 1 false)) (h' := [some ⟨25, (List.replicate 32 0).map (eI .u8)⟩, some ⟨5, x7.map (eI .u8)⟩, none, some ⟨22, [x8, x8, b].map (eL 1 (eI .u8))⟩]) (sv (d_buildS rfl (bldL1 (xs := [x8, x8, b].map (eL 1 (eI .u8))) ti23 ti22 zl zl rfl rfl rfl rfl rfl rfl rfl)))) ?_
  refine DrawG.pick (n := 2) (i := 4) (by decide +kernel) rfl (gC (v := (.sl 4 0 x13.length 1 false)) (h' := [some ⟨25, (List.replicate 32 0).map (eI .u8)⟩, some ⟨5, x7.map (eI .u8)⟩, none, some ⟨22, [x8, x8, b].map (eL 1 (eI .u8))⟩, some ⟨5, x13.map (eI .u8)⟩]) (zL (sha_row_ok N [x8, x8, b] x13 h_4) [] [3]) rfl (fun _ => ⟨_, rfl⟩) (sv (d_call rfl orc1_hit))) ?_
  refine DrawG.pick (n := 1) (i := 5) (by decide +kernel) rfl (gC (v := (.agg (x14.map (eI .u8)))) (h' := [some ⟨25, (List.replicate 32 0).map (eI .u8)⟩, some ⟨5, x7.map (eI .u8)⟩, none, some ⟨22, [x8, x8, b].map (eL 1 (eI .u8))⟩, some ⟨5, x13.map (eI .u8)⟩]) (zL (sha_Sum_ok N x13 x14 h_6) [] [4]) rfl (fun _ => ⟨[], by simp⟩) (sv (d_call rfl orc1_hit))) ?_
  refine DrawG.pick (n := 0) (i := 6) (by decide +kernel) rfl (gN (h' := [some ⟨25, x14.map (eI .u8)⟩, some ⟨5, x7.map (eI .u8)⟩, none, some ⟨22, [x8, x8, b].map (eL 1 (eI .u8))⟩, some ⟨5, x13.map (eI .u8)⟩]) (sv (d_store rfl rfl (stA (E := (eI .u8)) (l := List.replicate 32 0) ti25 rfl rfl (fun _ => rfl) rfl (arr_len h_8) rfl)))) <| DrawG.nil (by decide +kernel) <| Ex.then_mk <| AB.ret ?_
  obtain rfl := Option.some.inj hr
  exact done_ret (r1 := (.agg (x14.map (eI .u8)))) (res1 Tryd.results62 (rvC rfl (ldA (E := (eI .u8)) (l := x14) ti25 rfl rfl (arr_len h_8)))) (zG [])
set_option maxRecDepth 20000 in
set_option maxHeartbeats 1000000 in
theorem wide_Add_ok (N : Nat) (va : List Int) (b : List Int) (r : (List Int) × Bool) (hr : wide_Add N va b = some r) :
    Vm.Fn Tryd.prog 74 [] [(.agg (va.map (eI .u64))), (.agg (b.map (eI .u64)))] (.tup [(.agg (r.1.map (eI .u64))), (eB r.2)]) [] := by
  refine fn_ab Tryd.func74 rfl (by kernel_rfl) Tryd.ntmps74 zl rfl (fr := [(0, (.agg (va.map (eI .u64)))), (1, (.agg (b.map (eI .u64))))]) rfl ?_
  unfold wide_Add at hr
  refine zq <| wS (v := (.ptr 0 0)) (h' := [some ⟨84, va.map (eI .u64)⟩]) (sv (d_box rfl (flatA (fun _ => rfl)) rfl rfl)) <| wS (v := (.ptr 1 0)) (h' := [some ⟨84, va.map (eI .u64)⟩, some ⟨84, b.map (eI .u64)⟩]) (sv (d_box rfl (flatA (fun _ => rfl)) rfl rfl)) <| wS (v := (.ptr 2 0)) (h' := [some ⟨84, va.map (eI .u64)⟩, some ⟨84, b.map (eI .u64)⟩, some ⟨84, (List.replicate 4 0).map (eI .u64)⟩]) (sv (d_alloc ti84 rfl rfl rfl)) <| wS (v := (eB false)) (sv (d_assign rfl)) <| zn <| zq ?_
  refine wS (v := (.ptr 3 0)) (h' := [some ⟨84, va.map (eI .u64)⟩, some ⟨84, b.map (eI .u64)⟩, some ⟨84, (List.replicate 4 0).map (eI .u64)⟩, some ⟨84, (List.replicate 4 0).map (eI .u64)⟩]) (sv (d_alloc ti84 rfl rfl rfl)) <| zn <| zq <| wS (v := (eI .u64 0)) (sv (d_assign rfl)) <| zn ?_
  refine AB.seq_g fun K1 hK1 hG1 => ?_
  have J1 : ∀ (carry : Int) (l1 : List Int), wide_Add_J1 N carry l1 = some r → K1 (mkF 29 [(4, (.ptr 0 0)), (6, (.ptr 1 0)), (7, (eI .u64 carry))]) [some ⟨84, (List.replicate 4 0).map (eI .u64)⟩, some ⟨84, l1.map (eI .u64)⟩] := by
    intro carry l1 hr
    unfold wide_Add_J1 at hr
    refine hK1 _ _ <| AB.seq ?_
    replace hr := bnd hr; obtain ⟨q, h_1, hr⟩ := hr
    refine AB.rw <| wS (v := (.agg (l1.map (eI .u64)))) (sv (d_load rfl (ldA (E := (eI .u64)) (l := l1) ti84 rfl rfl (arr_len h_1)))) <| zm rfl <| wS (v := (eB (carry != 0))) (sv (d_bin rfl rfl (bin_neq ..))) <| wN (h' := [some ⟨84, l1.map (eI .u64)⟩, some ⟨84, l1.map (eI .u64)⟩]) (sv (d_store rfl rfl (stA (E := (eI .u64)) (l := List.replicate 4 0) ti84 rfl rfl (fun _ => rfl) rfl (arr_len h_1) rfl))) <| za rfl <| zn <| AB.ret ?_
    obtain rfl := Option.some.inj hr
    exact done_ret (r1 := (.tup [(.agg (l1.map (eI .u64))), (eB (carry != 0))])) (res2 Tryd.results74 (rvC rfl (ldA (E := (eI .u64)) (l := l1) ti84 rfl rfl (arr_len h_1))) (rvT rfl)) (Ghost.rn [] rfl rfl (FLe.le rfl (V.le_tup (V.les_cons (V.le_arr (fun _ => rfl)) (V.les_cons (V.le_refl _ _) V.les_nil))) FLe.nil) HLe.nil rfl)
  refine zq <| wS (v := (eI .i64 0)) (sv (d_move rfl)) <| zn ?_
  replace hr := bnd hr; obtain ⟨res2, hL2, hr⟩ := hr
  refine AB.block <| AB.loopN (fun m s h => ∃ (carry_1 : Int) (x9 : Int) (l3 : List Int), wide_Add_L2 N va b m carry_1 x9 l3 = some res2 ∧ Ghost 0 s h (mkF 29 [(2, (.ptr 0 0)), (3, (.ptr 1 0)), (4, (.ptr 2 0)), (6, (.ptr 3 0)), (7, (eI .u64 carry_1)), (9, (eI .i64 x9))]) [some ⟨84, va.map (eI .u64)⟩, some ⟨84, b.map (eI .u64)⟩, some ⟨84, (List.replicate 4 0).map (eI .u64)⟩, some ⟨84, l3.map (eI .u64)⟩]) (n := N) ⟨0, 0, List.replicate 4 0, hL2, (zG [0, 1, 2, 3])⟩ (by rintro s h ⟨_, _, _, h0, _⟩; simp [wide_Add_L2] at h0) ?_
  rintro m2 s h ⟨carry_1, x9, l3, hr2, hg⟩
  refine AB.ghost hg ?_
  clear hg hL2
  rw [wide_Add_L2] at hr2
  refine zq <| wS (v := (eB (decide (x9 < 4)))) (sv (d_bin rfl rfl (bin_lss ..))) <| zn <| AB.seq ?_
  refine AB.cnd rfl (fun h2 => ?_) (fun h2 => ?_)
  · replace hr2 := iteT hr2 h2
    refine AB.skip <| Ex.then_mk <| AB.seq <| AB.block <| zq <| zm rfl <| za rfl <| zn ?_
    replace hr2 := bnd hr2; obtain ⟨x15, h_3, hr2⟩ := hr2
    replace hr2 := bnd hr2; obtain ⟨x18, h_4, hr2⟩ := hr2
    replace hr2 := bnd hr2; obtain ⟨x21, h_5, hr2⟩ := hr2
    replace hr2 := bnd hr2; obtain ⟨x24, h_7, hr2⟩ := hr2
    refine AB.rd (memF [71]) (memF []) mixed <| DrawG.pick (n := 14) (i := 0) (by decide +kernel) rfl (gS (v := (eI .i64 x9)) (sv (d_move rfl))) <| DrawG.pick (n := 13) (i := 1) (by decide +kernel) rfl (gS (v := (eI .i64 x9)) (sv (d_move rfl))) <| DrawG.pick (n := 12) (i := 2) (by decide +kernel) rfl (gS (v := (.ptr 0 (Int.toNat x9))) (sv (d_ia rfl rfl (iaB ti84 ti75 rfl h_3)))) <| DrawG.pick (n := 11) (i := 3) (by decide +kernel) rfl (gS (v := (eI .u64 x15)) (sv (d_load rfl (ldX (E := (eI .u64)) (y := x15) ti75 rfl rfl (aix_idx h_3))))) ?_
    refine DrawG.pick (n := 10) (i := 4) (by decide +kernel) rfl (gS (v := (eI .i64 x9)) (sv (d_move rfl))) <| DrawG.pick (n := 9) (i := 5) (by decide +kernel) rfl (gS (v := (.ptr 1 (Int.toNat x9))) (sv (d_ia rfl rfl (iaB ti84 ti75 rfl h_4)))) <| DrawG.pick (n := 8) (i := 6) (by decide +kernel) rfl (gS (v := (eI .u64 x18)) (sv (d_load rfl (ldX (E := (eI .u64)) (y := x18) ti75 rfl rfl (aix_idx h_4))))) <| DrawG.pick (n := 7) (i := 7) (by decide +kernel) rfl (gS (v := (eI .u64 carry_1)) (sv (d_move rfl))) ?_
    refine DrawG.pick (n := 6) (i := 8) (by decide +kernel) rfl (gU (fun _ => (Vm.Fn.pure (math_bits_Add64_ok N x15 x18 carry_1 x21 h_5) rfl rfl)) rfl (sv (d_call rfl orcU_hit))) <| DrawG.pick (n := 5) (i := 9) (by decide +kernel) rfl (gS (v := (.tup [(eI .u64 x21.1), (eI .u64 x21.2)])) (sv (d_move rfl))) <| DrawG.pick (n := 4) (i := 10) (by decide +kernel) rfl (gS (v := (eI .u64 x21.1)) (sv (d_ext rfl rfl))) <| DrawG.pick (n := 3) (i := 11) (by decide +kernel) rfl (gS (v := (eI .u64 x21.2)) (sv (d_ext rfl rfl))) ?_
    refine DrawG.pick (n := 2) (i := 12) (by decide +kernel) rfl (gS (v := (.ptr 3 (Int.toNat x9))) (sv (d_ia rfl rfl (iaB ti84 ti75 rfl h_7)))) <| DrawG.pick (n := 1) (i := 13) (by decide +kernel) rfl (gN (h' := [some ⟨84, va.map (eI .u64)⟩, some ⟨84, b.map (eI .u64)⟩, some ⟨84, (List.replicate 4 0).map (eI .u64)⟩, some ⟨84, (l3.set (Int.toNat x9) x21.1).map (eI .u64)⟩]) (sv (d_store rfl rfl (stXe (E := (eI .u64)) (y := x21.1) ti75 rfl rfl (aix_idx h_7) rfl rfl rfl)))) <| DrawG.pick (n := 0) (i := 14) (by decide +kernel) rfl (gS (v := (eI .u64 x21.2)) (sv (d_assign rfl))) ?_
    refine DrawG.nil (by decide +kernel) <| Ex.inBlock_mk <| Ex.then_mk <| AB.rw <| wS (v := (eI .i64 (IntKind.i64.wrap (x9 + 1)))) (sv (d_bin rfl rfl (bin_add ..))) <| zm rfl <| zn ?_
    exact ⟨x21.2, IntKind.i64.wrap (x9 + 1), l3.set (Int.toNat x9) x21.1, hr2, (zG [0, 1, 2, 3])⟩
  · replace hr2 := iteF hr2 h2
    refine AB.exit <| Ex.then_exit_mk <| Ex.then_exit_mk <| Ex.inBlock_same_mk ?_
    obtain rfl := Option.some.inj hr2
    refine Ex.then_mk ?_
    exact hG1 _ _ _ _ (zG [2, 3]) (J1 carry_1 l3 hr)
set_option maxRecDepth 20000 in
set_option maxHeartbeats 1000000 in
theorem wide_AddMod_ok (N : Nat) (va : List Int) (b : List Int) (vm : List Int) (r : (List Int)) (hr : wide_AddMod N va b vm = some r) :
    Vm.Fn Tryd.prog 73 [] [(.agg (va.map (eI .u64))), (.agg (b.map (eI .u64))), (.agg (vm.map (eI .u64)))] (.agg (r.map (eI .u64))) [] := by
  refine fn_ab Tryd.func73 rfl (by kernel_rfl) Tryd.ntmps73 zl rfl (fr := [(0, (.agg (va.map (eI .u64)))), (1, (.agg (b.map (eI .u64)))), (2, (.agg (vm.map (eI .u64))))]) rfl ?_
  unfold wide_AddMod at hr
  refine zq <| wS (v := (.ptr 0 0)) (h' := [some ⟨84, va.map (eI .u64)⟩]) (sv (d_box rfl (flatA (fun _ => rfl)) rfl rfl)) <| wS (v := (.ptr 1 0)) (h' := [some ⟨84, va.map (eI .u64)⟩, some ⟨84, b.map (eI .u64)⟩]) (sv (d_box rfl (flatA (fun _ => rfl)) rfl rfl)) <| wS (v := (.ptr 2 0)) (h' := [some ⟨84, va.map (eI .u64)⟩, some ⟨84, b.map (eI .u64)⟩, some ⟨84, vm.map (eI .u64)⟩]) (sv (d_box rfl (flatA (fun _ => rfl)) rfl rfl)) ?_
  refine wS (v := (.ptr 3 0)) (h' := [some ⟨84, va.map (eI .u64)⟩, some ⟨84, b.map (eI .u64)⟩, some ⟨84, vm.map (eI .u64)⟩, some ⟨84, (List.replicate 4 0).map (eI .u64)⟩]) (sv (d_alloc ti84 rfl rfl rfl)) <| zn <| AB.seq <| AB.seq ?_
  replace hr := bnd hr; obtain ⟨q, h_1, hr⟩ := hr
  refine AB.rw <| wS (v := (.agg (vm.map (eI .u64)))) (sv (d_load rfl (ldA (E := (eI .u64)) (l := vm) ti84 rfl rfl (arr_len h_1)))) <| wS (v := (.agg ([0, 0, 0, 0].map (eI .u64)))) (sv (d_build rfl (bldA ti84 ti75 rfl))) <| wS (sv (d_bin rfl rfl (bin_eqlA _ _ ti84 ti75 rfl dep (arr_len h_1) rfl))) <| zn ?_
  refine AB.cnd rfl (fun h2 => ?_) (fun h2 => ?_)
  · replace hr := iteT hr h2
    refine zq <| wS (v := (.agg ([0, 0, 0, 0].map (eI .u64)))) (sv (d_build rfl (bldA ti84 ti75 rfl))) <| wN (h' := [some ⟨84, va.map (eI .u64)⟩, some ⟨84, b.map (eI .u64)⟩, some ⟨84, vm.map (eI .u64)⟩, some ⟨84, [0, 0, 0, 0].map (eI .u64)⟩]) (sv (d_store rfl rfl (stA (E := (eI .u64)) (l := List.replicate 4 0) ti84 rfl rfl (fun _ => rfl) rfl rfl rfl))) <| zn <| AB.ret <| Ex.then_ret_mk ?_
    obtain rfl := Option.some.inj hr
    exact done_ret (r1 := (.agg ([0, 0, 0, 0].map (eI .u64)))) (res1 Tryd.results73 (rvC rfl (ldA (E := (eI .u64)) (l := [0, 0, 0, 0]) ti84 rfl rfl rfl))) (zG [])
  · replace hr := iteF hr h2
    refine AB.skip <| Ex.then_mk <| AB.seq ?_
    replace hr := bnd hr; obtain ⟨q_1, h_3, hr⟩ := hr
    replace hr := bnd hr; obtain ⟨x16, h_4, hr⟩ := hr
    replace hr := bnd hr; obtain ⟨q_2, h_6, hr⟩ := hr
    replace hr := bnd hr; obtain ⟨x19, h_7, hr⟩ := hr
    replace hr := bnd hr; obtain ⟨x20, h_9, hr⟩ := hr
    replace hr := bnd hr; obtain ⟨q_3, h_11, hr⟩ := hr
    refine AB.rd (memF [67, 74]) (memF []) mixed <| DrawG.pick (n := 12) (i := 0) (by decide +kernel) rfl (gS (v := (.agg (va.map (eI .u64)))) (sv (d_load rfl (ldA (E := (eI .u64)) (l := va) ti84 rfl rfl (arr_len h_3))))) <| DrawG.pick (n := 11) (i := 1) (by decide +kernel) rfl (gS (v := (.agg (vm.map (eI .u64)))) (sv (d_load rfl (ldA (E := (eI .u64)) (l := vm) ti84 rfl rfl (arr_len h_1))))) <| DrawG.pick (n := 10) (i := 2) (by decide +kernel) rfl (gU (fun _ => (Vm.Fn.pure (wide_reduce_ok N va vm x16 h_4) zR zR)) rfl (sv (d_call rfl orcU_hit))) ?_
    refine DrawG.pick (n := 9) (i := 3) (by decide +kernel) rfl (gS (v := (.agg (b.map (eI .u64)))) (sv (d_load rfl (ldA (E := (eI .u64)) (l := b) ti84 rfl rfl (arr_len h_6))))) <| DrawG.pick (n := 8) (i := 4) (by decide +kernel) rfl (gS (v := (.agg (vm.map (eI .u64)))) (sv (d_load rfl (ldA (E := (eI .u64)) (l := vm) ti84 rfl rfl (arr_len h_1))))) <| DrawG.pick (n := 7) (i := 5) (by decide +kernel) rfl (gU (fun _ => (Vm.Fn.pure (wide_reduce_ok N b vm x19 h_7) zR zR)) rfl (sv (d_call rfl orcU_hit))) ?_
    refine DrawG.pick (n := 6) (i := 6) (by decide +kernel) rfl (gU (fun _ => (Vm.Fn.pure (wide_Add_ok N x16 x19 x20 h_9) zR zR)) rfl (sv (d_call rfl orcU_hit))) <| DrawG.pick (n := 5) (i := 7) (by decide +kernel) rfl (gS (v := (.tup [(.agg (x20.1.map (eI .u64))), (eB x20.2)])) (sv (d_move rfl))) <| DrawG.pick (n := 4) (i := 8) (by decide +kernel) rfl (gS (v := (.agg (x20.1.map (eI .u64)))) (sv (d_ext rfl rfl))) <| DrawG.pick (n := 3) (i := 9) (by decide +kernel) rfl (gS (v := (eB x20.2)) (sv (d_ext rfl rfl))) ?_
    refine DrawG.pick (n := 2) (i := 10) (by decide +kernel) rfl (gS (v := (.ptr 4 0)) (h' := [some ⟨84, va.map (eI .u64)⟩, some ⟨84, b.map (eI .u64)⟩, some ⟨84, vm.map (eI .u64)⟩, some ⟨84, (List.replicate 4 0).map (eI .u64)⟩, some ⟨84, (List.replicate 4 0).map (eI .u64)⟩]) (sv (d_alloc ti84 rfl rfl rfl))) ?_
    refine DrawG.pick (n := 1) (i := 11) (by decide +kernel) rfl (gN (h' := [some ⟨84, va.map (eI .u64)⟩, some ⟨84, b.map (eI .u64)⟩, some ⟨84, vm.map (eI .u64)⟩, some ⟨84, (List.replicate 4 0).map (eI .u64)⟩, some ⟨84, x20.1.map (eI .u64)⟩]) (sv (d_store rfl rfl (stA (E := (eI .u64)) (l := List.replicate 4 0) ti84 rfl rfl (fun _ => rfl) rfl (arr_len h_11) rfl)))) <| DrawG.pick (n := 0) (i := 12) (by decide +kernel) rfl (gS (v := (eB x20.2)) (sv (d_assign rfl))) <| DrawG.nil (by decide +kernel) <| Ex.then_mk ?_
    refine AB.seq_g fun K1 hK1 hG1 => ?_
    have J1 : ∀ (l1 : List Int), wide_AddMod_J1 N l1 = some r → K1 (mkF 37 [(6, (.ptr 0 0)), (7, (.ptr 1 0))]) [some ⟨84, (List.replicate 4 0).map (eI .u64)⟩, some ⟨84, l1.map (eI .u64)⟩] := by
      intro l1 hr
      unfold wide_AddMod_J1 at hr
      refine hK1 _ _ <| AB.seq ?_
      replace hr := bnd hr; obtain ⟨q_4, h_12, hr⟩ := hr
      refine AB.rw <| wS (v := (.agg (l1.map (eI .u64)))) (sv (d_load rfl (ldA (E := (eI .u64)) (l := l1) ti84 rfl rfl (arr_len h_12)))) <| wN (h' := [some ⟨84, l1.map (eI .u64)⟩, some ⟨84, l1.map (eI .u64)⟩]) (sv (d_store rfl rfl (stA (E := (eI .u64)) (l := List.replicate 4 0) ti84 rfl rfl (fun _ => rfl) rfl (arr_len h_12) rfl))) <| zn <| AB.ret ?_
      obtain rfl := Option.some.inj hr
      exact done_ret (r1 := (.agg (l1.map (eI .u64)))) (res1 Tryd.results73 (rvC rfl (ldA (E := (eI .u64)) (l := l1) ti84 rfl rfl (arr_len h_12)))) (zG [])
    refine AB.seq_g fun K2 hK2 hG2 => ?_
    have J2 : ∀ (x29 : Bool), wide_AddMod_J2 N vm x20 x29 = some r → K2 (mkF 37 [(5, (.ptr 0 0)), (6, (.ptr 1 0)), (7, (.ptr 2 0)), (29, (eB x29))]) [some ⟨84, vm.map (eI .u64)⟩, some ⟨84, (List.replicate 4 0).map (eI .u64)⟩, some ⟨84, x20.1.map (eI .u64)⟩] := by
      intro x29 hr
      unfold wide_AddMod_J2 at hr
      refine hK2 _ _ ?_
      refine AB.cnd rfl (fun h13 => ?_) (fun h13 => ?_)
      · replace hr := iteT hr h13
        replace hr := bnd hr; obtain ⟨x33, h_14, hr⟩ := hr
        replace hr := bnd hr; obtain ⟨q_5, h_15, hr⟩ := hr
        refine AB.rw <| wS (v := (.agg (x20.1.map (eI .u64)))) (sv (d_load rfl (ldA (E := (eI .u64)) (l := x20.1) ti84 rfl rfl (arr_len h_11)))) <| wS (v := (.agg (vm.map (eI .u64)))) (sv (d_load rfl (ldA (E := (eI .u64)) (l := vm) ti84 rfl rfl (arr_len h_1)))) <| wC rfl (Vm.Fn.pure (wide_Sub_ok N x20.1 vm x33 h_14) zR zR) <| zm rfl <| wS (v := (.agg (x33.1.map (eI .u64)))) (sv (d_ext rfl rfl)) <| wS (v := (eB x33.2)) (sv (d_ext rfl rfl)) ?_
        refine wN (h' := [some ⟨84, vm.map (eI .u64)⟩, some ⟨84, (List.replicate 4 0).map (eI .u64)⟩, some ⟨84, x33.1.map (eI .u64)⟩]) (sv (d_store rfl rfl (stA (E := (eI .u64)) (l := x20.1) ti84 rfl rfl (fun _ => rfl) (arr_len h_11) (arr_len h_15) rfl))) <| zn ?_
        exact hG1 _ _ _ _ (zG [1, 2]) (J1 x33.1 hr)
      · replace hr := iteF hr h13
        refine AB.skip <| Ex.then_mk ?_
        exact hG1 _ _ _ _ (zG [1, 2]) (J1 x20.1 hr)
    rcases Bool.eq_false_or_eq_true x20.2 with h16 | h16
    · replace hr := iteT hr h16
      refine AB.rw <| zm rfl <| zm rfl <| wS (svX rfl rfl h16) <| wS (svX rfl rfl h16) <| wS (svX rfl rfl h16) <| wS (svX rfl rfl h16) <| wS (v := (eB true)) (sv (d_pickT rfl h16 rfl)) <| zn ?_
      exact hG2 _ _ _ _ (zG [2, 3, 4]) (J2 true hr)
    · replace hr := iteF hr h16
      replace hr := bnd hr; obtain ⟨x27, h_17, hr⟩ := hr
      refine AB.rw <| zm rfl <| zm rfl <| wS (v := (.agg (x20.1.map (eI .u64)))) (svG rfl rfl h16 (d_load rfl (ldA (E := (eI .u64)) (l := x20.1) ti84 rfl rfl (arr_len h_11)))) <| wS (v := (.agg (vm.map (eI .u64)))) (svG rfl rfl h16 (d_load rfl (ldA (E := (eI .u64)) (l := vm) ti84 rfl rfl (arr_len h_1)))) <| wCG (v := (eI .i64 x27)) (h' := [some ⟨84, va.map (eI .u64)⟩, some ⟨84, b.map (eI .u64)⟩, some ⟨84, vm.map (eI .u64)⟩, some ⟨84, (List.replicate 4 0).map (eI .u64)⟩, some ⟨84, x20.1.map (eI .u64)⟩]) rfl rfl h16 rfl (Vm.Fn.pure (wide_Cmp_ok N x20.1 vm x27 h_17) zR rfl) ?_
      refine wS (v := (eB (decide (0 ≤ x27)))) (svG rfl rfl h16 (d_bin rfl rfl (bin_geq ..))) <| wS (v := (eB (decide (0 ≤ x27)))) (sv (d_pickF rfl h16 rfl)) <| zn ?_
      exact hG2 _ _ _ _ (zG [2, 3, 4]) (J2 (decide (0 ≤ x27)) hr)
set_option maxRecDepth 20000 in
set_option maxHeartbeats 1000000 in
theorem group_AddScalar_ok (N : Nat) (va : List Int) (b : List Int) (r : (List Int)) (hr : group_AddScalar N va b = some r) :
    Vm.Fn Tryd.prog 69 [] [(.agg (va.map (eI .u64))), (.agg (b.map (eI .u64)))] (.agg (r.map (eI .u64))) [] := by
  refine fn_ab Tryd.func69 rfl (by kernel_rfl) Tryd.ntmps69 zl rfl (fr := [(0, (.agg (va.map (eI .u64)))), (1, (.agg (b.map (eI .u64))))]) rfl ?_
  unfold group_AddScalar at hr
  refine zq <| wS (v := (.ptr 0 0)) (h' := [some ⟨84, va.map (eI .u64)⟩]) (sv (d_box rfl (flatA (fun _ => rfl)) rfl rfl)) <| wS (v := (.ptr 1 0)) (h' := [some ⟨84, va.map (eI .u64)⟩, some ⟨84, b.map (eI .u64)⟩]) (sv (d_box rfl (flatA (fun _ => rfl)) rfl rfl)) <| wS (v := (.ptr 2 0)) (h' := [some ⟨84, va.map (eI .u64)⟩, some ⟨84, b.map (eI .u64)⟩, some ⟨84, (List.replicate 4 0).map (eI .u64)⟩]) (sv (d_alloc ti84 rfl rfl rfl)) <| zn <| AB.seq ?_
  replace hr := bnd hr; obtain ⟨q, h_1, hr⟩ := hr
  replace hr := bnd hr; obtain ⟨q_1, h_2, hr⟩ := hr
  replace hr := bnd hr; obtain ⟨x7, h_3, hr⟩ := hr
  replace hr := bnd hr; obtain ⟨x8, h_5, hr⟩ := hr
  replace hr := bnd hr; obtain ⟨q_2, h_7, hr⟩ := hr
  have hc4 : Vm.Fn Tryd.prog 51 [some ⟨84, va.map (eI .u64)⟩, some ⟨84, b.map (eI .u64)⟩, some ⟨84, (List.replicate 4 0).map (eI .u64)⟩] [] (.agg (x7.map (eI .u64))) [some ⟨84, va.map (eI .u64)⟩, some ⟨84, b.map (eI .u64)⟩, some ⟨84, (List.replicate 4 0).map (eI .u64)⟩] := (Vm.Fn.pure (group_Order_ok N x7 h_3) rfl zR)
  have hc6 : Vm.Fn Tryd.prog 73 [some ⟨84, va.map (eI .u64)⟩, some ⟨84, b.map (eI .u64)⟩, some ⟨84, (List.replicate 4 0).map (eI .u64)⟩] [(.agg (va.map (eI .u64))), (.agg (b.map (eI .u64))), (.agg (x7.map (eI .u64)))] (.agg (x8.map (eI .u64))) [some ⟨84, va.map (eI .u64)⟩, some ⟨84, b.map (eI .u64)⟩, some ⟨84, (List.replicate 4 0).map (eI .u64)⟩] := (Vm.Fn.pure (wide_AddMod_ok N va b x7 x8 h_5) zR zR)
  refine AB.rg (Env.add (Env.one mixed hc4 allF (fun _ _ => rfl)) hc6 allF (fun _ _ => rfl) (fun _ h => h)) (fun _ => by show drawOk allF _ = true; decide +kernel) <| tS (v := (.agg (va.map (eI .u64)))) (sv (d_load rfl (ldA (E := (eI .u64)) (l := va) ti84 rfl rfl (arr_len h_1)))) <| tS (v := (.agg (b.map (eI .u64)))) (sv (d_load rfl (ldA (E := (eI .u64)) (l := b) ti84 rfl rfl (arr_len h_2)))) <| tS (v := (.agg (x7.map (eI .u64)))) (h' := [some ⟨84, va.map (eI .u64)⟩, some ⟨84, b.map (eI .u64)⟩, some ⟨84, (List.replicate 4 0).map (eI .u64)⟩]) (sv (d_call rfl (Env.add_M rfl Env.one_O))) ?_
  refine tS (v := (.agg (x8.map (eI .u64)))) (h' := [some ⟨84, va.map (eI .u64)⟩, some ⟨84, b.map (eI .u64)⟩, some ⟨84, (List.replicate 4 0).map (eI .u64)⟩]) (sv (d_call rfl Env.add_O)) <| tN (h' := [some ⟨84, va.map (eI .u64)⟩, some ⟨84, b.map (eI .u64)⟩, some ⟨84, x8.map (eI .u64)⟩]) (sv (d_store rfl rfl (stA (E := (eI .u64)) (l := List.replicate 4 0) ti84 rfl rfl (fun _ => rfl) rfl (arr_len h_7) rfl))) <| OpsTo.nil <| Ex.then_mk <| AB.ret ?_
  obtain rfl := Option.some.inj hr
  exact done_ret (r1 := (.agg (x8.map (eI .u64)))) (res1 Tryd.results69 (rvC rfl (ldA (E := (eI .u64)) (l := x8) ti84 rfl rfl (arr_len h_7)))) (zG [])
set_option maxRecDepth 20000 in
set_option maxHeartbeats 1000000 in
theorem group_Scalar_ok (N : Nat) (vh : List Int) (r : (List Int)) (hr : group_Scalar N vh = some r) :
    Vm.Fn Tryd.prog 61 [] [(.agg (vh.map (eI .u8)))] (.agg (r.map (eI .u64))) [] := by
  refine fn_ab Tryd.func61 rfl (by kernel_rfl) Tryd.ntmps61 zl rfl (fr := [(0, (.agg (vh.map (eI .u8))))]) rfl ?_
  unfold group_Scalar at hr
  refine zq <| wS (v := (.ptr 0 0)) (h' := [some ⟨25, vh.map (eI .u8)⟩]) (sv (d_box rfl (flatA (fun _ => rfl)) rfl rfl)) <| wS (v := (.ptr 1 0)) (h' := [some ⟨25, vh.map (eI .u8)⟩, some ⟨84, (List.replicate 4 0).map (eI .u64)⟩]) (sv (d_alloc ti84 rfl rfl rfl)) <| zn <| AB.seq ?_
  replace hr := bnd hr; obtain ⟨q, h_1, hr⟩ := hr
  replace hr := bnd hr; obtain ⟨x4, h_2, hr⟩ := hr
  replace hr := bnd hr; obtain ⟨x6, h_3, hr⟩ := hr
  replace hr := bnd hr; obtain ⟨q_1, h_4, hr⟩ := hr
  refine AB.rw <| wS (v := (.agg (vh.map (eI .u8)))) (sv (d_load rfl (ldA (E := (eI .u8)) (l := vh) ti25 rfl rfl (arr_len h_1)))) <| wC rfl (Vm.Fn.pure (wide_FromBytes_ok N vh x4 h_2) zR zR) <| wS (v := (.agg ([0, 0, 0, 0].map (eI .u64)))) (sv (d_build rfl (bldA ti84 ti75 rfl))) <| wC rfl (Vm.Fn.pure (group_AddScalar_ok N x4 [0, 0, 0, 0] x6 h_3) zR zR) <| wN (h' := [some ⟨25, vh.map (eI .u8)⟩, some ⟨84, x6.map (eI .u64)⟩]) (sv (d_store rfl rfl (stA (E := (eI .u64)) (l := List.replicate 4 0) ti84 rfl rfl (fun _ => rfl) rfl (arr_len h_4) rfl))) <| zn <| AB.ret ?_
  obtain rfl := Option.some.inj hr
  exact done_ret (r1 := (.agg (x6.map (eI .u64)))) (res1 Tryd.results61 (rvC rfl (ldA (E := (eI .u64)) (l := x6) ti84 rfl rfl (arr_len h_4)))) (zG [])
set_option maxRecDepth 20000 in
set_option maxHeartbeats 1000000 in
theorem sign_Challenge_ok (N : Nat) (vr : List Int) (p : List Int) (vm : List Int) (r : (List Int)) (hr : sign_Challenge N vr p vm = some r) :
    Vm.Fn Tryd.prog 55 [] [(.agg (vr.map (eI .u64))), (.agg (p.map (eI .u64))), (.agg (vm.map (eI .u8)))] (.agg (r.map (eI .u64))) [] := by
  refine fn_ab Tryd.func55 rfl (by kernel_rfl) Tryd.ntmps55 zl rfl (fr := [(0, (.agg (vr.map (eI .u64)))), (1, (.agg (p.map (eI .u64)))), (2, (.agg (vm.map (eI .u8))))]) rfl ?_
  unfold sign_Challenge at hr
  refine zq <| wS (v := (.ptr 0 0)) (h' := [some ⟨84, vr.map (eI .u64)⟩]) (sv (d_box rfl (flatA (fun _ => rfl)) rfl rfl)) <| wS (v := (.ptr 1 0)) (h' := [some ⟨84, vr.map (eI .u64)⟩, some ⟨84, p.map (eI .u64)⟩]) (sv (d_box rfl (flatA (fun _ => rfl)) rfl rfl)) <| wS (v := (.ptr 2 0)) (h' := [some ⟨84, vr.map (eI .u64)⟩, some ⟨84, p.map (eI .u64)⟩, some ⟨25, vm.map (eI .u8)⟩]) (sv (d_box rfl (flatA (fun _ => rfl)) rfl rfl)) ?_
  refine wS (v := (.ptr 3 0)) (h' := [some ⟨84, vr.map (eI .u64)⟩, some ⟨84, p.map (eI .u64)⟩, some ⟨25, vm.map (eI .u8)⟩, some ⟨84, (List.replicate 4 0).map (eI .u64)⟩]) (sv (d_alloc ti84 rfl rfl rfl)) <| zn <| AB.seq ?_
  replace hr := bnd hr; obtain ⟨q, h_1, hr⟩ := hr
  replace hr := bnd hr; obtain ⟨x8, h_2, hr⟩ := hr
  replace hr := bnd hr; obtain ⟨q_1, h_4, hr⟩ := hr
  replace hr := bnd hr; obtain ⟨x10, h_5, hr⟩ := hr
  replace hr := bnd hr; obtain ⟨q_2, h_7, hr⟩ := hr
  replace hr := bnd hr; obtain ⟨q_3, h_8, hr⟩ := hr
  replace hr := bnd hr; obtain ⟨q_4, h_9, hr⟩ := hr
  replace hr := bnd hr; obtain ⟨x13, h_10, hr⟩ := hr
  replace hr := bnd hr; obtain ⟨x14, h_12, hr⟩ := hr
  replace hr := bnd hr; obtain ⟨x15, h_14, hr⟩ := hr
  replace hr := bnd hr; obtain ⟨q_5, h_16, hr⟩ := hr
  refine AB.rd (memF [61, 64]) (memF [62, 63]) mixed <| DrawG.pick (n := 9) (i := 0) (by decide +kernel) rfl (gS (v := (.agg (vr.map (eI .u64)))) (sv (d_load rfl (ldA (E := (eI .u64)) (l := vr) ti84 rfl rfl (arr_len h_1))))) <| DrawG.pick (n := 8) (i := 1) (by decide +kernel) rfl (gU (fun _ => (Vm.Fn.pure (wide_Bytes_ok N vr x8 h_2) zR zR)) rfl (sv (d_call rfl orcU_hit))) <| DrawG.pick (n := 7) (i := 2) (by decide +kernel) rfl (gS (v := (.agg (p.map (eI .u64)))) (sv (d_load rfl (ldA (E := (eI .u64)) (l := p) ti84 rfl rfl (arr_len h_4))))) ?_
  refine DrawG.pick (n := 6) (i := 3) (by decide +kernel) rfl (gU (fun _ => (Vm.Fn.pure (wide_Bytes_ok N p x10 h_5) zR zR)) rfl (sv (d_call rfl orcU_hit))) <| DrawG.pick (n := 5) (i := 4) (by decide +kernel) rfl (gS (v := (.agg (vm.map (eI .u8)))) (sv (d_load rfl (ldA (E := (eI .u8)) (l := vm) ti25 rfl rfl (arr_len h_7))))) ?_
  refine DrawG.pick (n := 4) (i := 5) (by decide +kernel) rfl (gS (v := (.sl 4 0 3 32 true)) (h' := [some ⟨84, vr.map (eI .u64)⟩, some ⟨84, p.map (eI .u64)⟩, some ⟨25, vm.map (eI .u8)⟩, some ⟨84, (List.replicate 4 0).map (eI .u64)⟩, some ⟨25, [x8, x10, vm].flatMap (CA32 (eI .u8))⟩]) (sv (d_buildS rfl (bldLE (ps' := [(0, .agg (CA32 (eI .u8) x8)), (1, .agg (CA32 (eI .u8) x10)), (2, .agg (CA32 (eI .u8) vm))]) (by simp only [CA32, ar32_nil (l := x8) (arr_len h_8), ar32_nil (l := x10) (arr_len h_9), ar32_nil (l := vm) (arr_len h_7)]) (bldLK (len := 3) (C := (CA32 (eI .u8))) (xs := [x8, x10, vm]) (K := 32) (fun _ => rfl) (fun _ => rfl) ti112 ti25 ⟨zl, zl, zl⟩ rfl rfl rfl rfl rfl rfl))))) ?_
  refine DrawG.gh (n := 3) (by decide +kernel) (Ghost.conv (fr' := [(0, (.agg (vr.map (eI .u64)))), (1, (.agg (p.map (eI .u64)))), (2, (.agg (vm.map (eI .u8)))), (3, (.ptr 0 0)), (4, (.ptr 1 0)), (5, (.ptr 2 0)), (6, (.ptr 3 0)), (7, (.agg (vr.map (eI .u64)))), (8, (.agg (x8.map (eI .u8)))), (9, (.agg (p.map (eI .u64)))), (10, (.agg (x10.map (eI .u8)))), (11, (.agg (vm.map (eI .u8)))), (12, (.row none 32 ([x8, x10, vm].map (eA (eI .u8)))))]) (h' := [some ⟨84, vr.map (eI .u64)⟩, some ⟨84, p.map (eI .u64)⟩, some ⟨25, vm.map (eI .u8)⟩, some ⟨84, (List.replicate 4 0).map (eI .u64)⟩, none]) (FCv.cons rfl (Conv.same (subB_sub rfl)) (FCv.cons rfl (Conv.same (subB_sub rfl)) (FCv.cons rfl (Conv.same (subB_sub rfl)) (FCv.cons rfl (Conv.same (subB_sub rfl)) (FCv.cons rfl (Conv.same (subB_sub rfl)) (FCv.cons rfl (Conv.same (subB_sub rfl)) (FCv.cons rfl (Conv.same (subB_sub rfl)) (FCv.cons rfl (Conv.same (subB_sub rfl)) (FCv.cons rfl (Conv.same (subB_sub rfl)) (FCv.cons rfl (Conv.same (subB_sub rfl)) (FCv.cons rfl (Conv.same (subB_sub rfl)) (FCv.cons rfl (Conv.same (subB_sub rfl)) (FCv.cons rfl (Conv.rowKA (C := (CA32 (eI .u8))) (E := (eI .u8)) (fun _ => rfl) (fun _ => rfl) (fun _ => rfl) (List.forall_mem_cons.2 ⟨ar32_nil (arr_len h_8), List.forall_mem_cons.2 ⟨ar32_nil (arr_len h_9), List.forall_mem_cons.2 ⟨ar32_nil (arr_len h_7), List.forall_mem_nil _⟩⟩⟩) (subB_sub rfl) rfl rfl rfl) FCv.nil))))))))))))) (HCv.live (Convs.same (subB_sub rfl)) (all_map (fun _ => rfl) _) (HCv.live (Convs.same (subB_sub rfl)) (all_map (fun _ => rfl) _) (HCv.live (Convs.same (subB_sub rfl)) (all_map (fun _ => rfl) _) (HCv.live (Convs.same (subB_sub rfl)) (all_map (fun _ => rfl) _) (HCv.dead HCv.nil)))))) ?_
  refine DrawG.pick (n := 3) (i := 6) (by decide +kernel) rfl (gC (v := (.sl 5 0 x13.length 1 false)) (h' := [some ⟨84, vr.map (eI .u64)⟩, some ⟨84, p.map (eI .u64)⟩, some ⟨25, vm.map (eI .u8)⟩, some ⟨84, (List.replicate 4 0).map (eI .u64)⟩, none, some ⟨5, x13.map (eI .u8)⟩]) (zB (sign_row_ok N [x8, x10, vm] x13 h_10) []) rfl (fun _ => ⟨_, rfl⟩) (sv (d_call rfl orc1_hit))) ?_
  refine DrawG.pick (n := 2) (i := 7) (by decide +kernel) rfl (gC (v := (.agg (x14.map (eI .u8)))) (h' := [some ⟨84, vr.map (eI .u64)⟩, some ⟨84, p.map (eI .u64)⟩, some ⟨25, vm.map (eI .u8)⟩, some ⟨84, (List.replicate 4 0).map (eI .u64)⟩, none, some ⟨5, x13.map (eI .u8)⟩]) (zL (sha_Tagged_ok N (⟨#[108, 105, 103, 104, 116, 99, 108, 105, 101, 110, 116, 47, 99, 104, 97, 108, 108, 101, 110, 103, 101]⟩) x13 x14 h_12) [] [5]) rfl (fun _ => ⟨[], by simp⟩) (sv (d_call rfl orc1_hit))) ?_
  refine DrawG.pick (n := 1) (i := 8) (by decide +kernel) rfl (gU (fun _ => (Vm.Fn.pure (group_Scalar_ok N x14 x15 h_14) zR zR)) rfl (sv (d_call rfl orcU_hit))) <| DrawG.pick (n := 0) (i := 9) (by decide +kernel) rfl (gN (h' := [some ⟨84, vr.map (eI .u64)⟩, some ⟨84, p.map (eI .u64)⟩, some ⟨25, vm.map (eI .u8)⟩, some ⟨84, x15.map (eI .u64)⟩, none, some ⟨5, x13.map (eI .u8)⟩]) (sv (d_store rfl rfl (stA (E := (eI .u64)) (l := List.replicate 4 0) ti84 rfl rfl (fun _ => rfl) rfl (arr_len h_16) rfl)))) <| DrawG.nil (by decide +kernel) <| Ex.then_mk <| AB.ret ?_
  obtain rfl := Option.some.inj hr
  exact done_ret (r1 := (.agg (x15.map (eI .u64)))) (res1 Tryd.results55 (rvC rfl (ldA (E := (eI .u64)) (l := x15) ti84 rfl rfl (arr_len h_16)))) (zG [])
set_option maxRecDepth 20000 in
set_option maxHeartbeats 1000000 in
theorem sign_Verify_ok (N : Nat) (p : List Int) (vm : List Int) (s_E : List Int) (s_S : List Int) (r : Bool) (hr : sign_Verify N p vm s_E s_S = some r) :
    Vm.Fn Tryd.prog 45 [] [(.agg (p.map (eI .u64))), (.agg (vm.map (eI .u8))), (.agg (ar4 (eI .u64) s_E (ar4 (eI .u64) s_S [])))] (eB r) [] := by
  refine fn_ab Tryd.func45 rfl (by kernel_rfl) Tryd.ntmps45 zl rfl (fr := [(0, (.agg (p.map (eI .u64)))), (1, (.agg (vm.map (eI .u8)))), (2, (.agg (ar4 (eI .u64) s_E (ar4 (eI .u64) s_S []))))]) rfl ?_
  unfold sign_Verify at hr
  refine zq <| wS (v := (.ptr 0 0)) (h' := [some ⟨84, p.map (eI .u64)⟩]) (sv (d_box rfl (flatA (fun _ => rfl)) rfl rfl)) <| wS (v := (.ptr 1 0)) (h' := [some ⟨84, p.map (eI .u64)⟩, some ⟨25, vm.map (eI .u8)⟩]) (sv (d_box rfl (flatA (fun _ => rfl)) rfl rfl)) <| wS (v := (.ptr 2 0)) (h' := [some ⟨84, p.map (eI .u64)⟩, some ⟨25, vm.map (eI .u8)⟩, some ⟨88, (ar4 (eI .u64) s_E (ar4 (eI .u64) s_S []))⟩]) (sv (d_box rfl rfl rfl rfl)) <| wS (v := (eB false)) (sv (d_assign rfl)) <| zn <| AB.seq ?_
  refine AB.seq_g fun K1 hK1 hG1 => ?_
  have J1 : ∀ (x24 : Bool), sign_Verify_J1 N p vm s_E s_S x24 = some r → K1 (mkF 46 [(3, (.ptr 0 0)), (4, (.ptr 1 0)), (5, (.ptr 2 0)), (24, (eB x24))]) [some ⟨84, p.map (eI .u64)⟩, some ⟨25, vm.map (eI .u8)⟩, some ⟨88, (ar4 (eI .u64) s_E (ar4 (eI .u64) s_S []))⟩] := by
    intro x24 hr
    unfold sign_Verify_J1 at hr
    refine hK1 _ _ ?_
    refine AB.cnd rfl (fun h1 => ?_) (fun h1 => ?_)
    · replace hr := iteT hr h1
      refine zq <| wS (v := (eB false)) (sv (d_assign rfl)) <| zn <| AB.ret <| Ex.then_ret_mk ?_
      obtain rfl := Option.some.inj hr
      exact done_ret (r1 := (eB false)) (res1 Tryd.results45 (rvT rfl)) (zG [])
    · replace hr := iteF hr h1
      refine AB.skip <| Ex.then_mk <| AB.seq ?_
      replace hr := bnd hr; obtain ⟨x26, h_2, hr⟩ := hr
      replace hr := bnd hr; obtain ⟨q, h_4, hr⟩ := hr
      replace hr := bnd hr; obtain ⟨x29, h_5, hr⟩ := hr
      replace hr := bnd hr; obtain ⟨q_1, h_7, hr⟩ := hr
      refine AB.rd (memF [50, 51]) (memF []) mixed <| DrawG.pick (n := 9) (i := 0) (by decide +kernel) rfl (gU (fun _ => (Vm.Fn.pure (group_Order_ok N x26 h_2) rfl zR)) rfl (sv (d_call rfl orcU_hit))) <| DrawG.pick (n := 8) (i := 1) (by decide +kernel) rfl (gS (v := (.ptr 2 0)) (sv (d_fa rfl (fap88_0 ..)))) <| DrawG.pick (n := 7) (i := 2) (by decide +kernel) rfl (gS (v := (.agg (s_E.map (eI .u64)))) (sv (d_load rfl (ldP rfl (to4 (arr_len h_4) (partN (ds := (ar4 (eI .u64) s_E [])) ti84 rfl zl rfl)))))) ?_
      refine DrawG.pick (n := 6) (i := 3) (by decide +kernel) rfl (gU (fun _ => (Vm.Fn.pure (wide_Sub_ok N x26 s_E x29 h_5) zR zR)) rfl (sv (d_call rfl orcU_hit))) <| DrawG.pick (n := 5) (i := 4) (by decide +kernel) rfl (gS (v := (.tup [(.agg (x29.1.map (eI .u64))), (eB x29.2)])) (sv (d_move rfl))) <| DrawG.pick (n := 4) (i := 5) (by decide +kernel) rfl (gS (v := (.agg (x29.1.map (eI .u64)))) (sv (d_ext rfl rfl))) <| DrawG.pick (n := 3) (i := 6) (by decide +kernel) rfl (gS (v := (eB x29.2)) (sv (d_ext rfl rfl))) ?_
      refine DrawG.pick (n := 2) (i := 7) (by decide +kernel) rfl (gS (v := (.ptr 3 0)) (h' := [some ⟨84, p.map (eI .u64)⟩, some ⟨25, vm.map (eI .u8)⟩, some ⟨88, (ar4 (eI .u64) s_E (ar4 (eI .u64) s_S []))⟩, some ⟨84, (List.replicate 4 0).map (eI .u64)⟩]) (sv (d_alloc ti84 rfl rfl rfl))) ?_
      refine DrawG.pick (n := 1) (i := 8) (by decide +kernel) rfl (gN (h' := [some ⟨84, p.map (eI .u64)⟩, some ⟨25, vm.map (eI .u8)⟩, some ⟨88, (ar4 (eI .u64) s_E (ar4 (eI .u64) s_S []))⟩, some ⟨84, x29.1.map (eI .u64)⟩]) (sv (d_store rfl rfl (stA (E := (eI .u64)) (l := List.replicate 4 0) ti84 rfl rfl (fun _ => rfl) rfl (arr_len h_7) rfl)))) <| DrawG.pick (n := 0) (i := 9) (by decide +kernel) rfl (gS (v := (eB x29.2)) (sv (d_assign rfl))) <| DrawG.nil (by decide +kernel) <| Ex.then_mk <| AB.seq ?_
      replace hr := bnd hr; obtain ⟨q_2, h_8, hr⟩ := hr
      replace hr := bnd hr; obtain ⟨x34, h_9, hr⟩ := hr
      replace hr := bnd hr; obtain ⟨q_3, h_11, hr⟩ := hr
      replace hr := bnd hr; obtain ⟨x37, h_12, hr⟩ := hr
      replace hr := bnd hr; obtain ⟨x38, h_14, hr⟩ := hr
      replace hr := bnd hr; obtain ⟨q_4, h_16, hr⟩ := hr
      refine AB.rd (memF [52, 53, 54]) (memF []) mixed <| DrawG.pick (n := 8) (i := 0) (by decide +kernel) rfl (gS (v := (.ptr 2 4)) (sv (d_fa rfl (fap88_1 ..)))) <| DrawG.pick (n := 7) (i := 1) (by decide +kernel) rfl (gS (v := (.agg (s_S.map (eI .u64)))) (sv (d_load rfl (ldP rfl (to4 (arr_len h_8) (partN (ds := (ar4 (eI .u64) s_S [])) ti84 rfl zl rfl)))))) <| DrawG.pick (n := 6) (i := 2) (by decide +kernel) rfl (gU (fun _ => (Vm.Fn.pure (group_Power_ok N s_S x34 h_9) zR zR)) rfl (sv (d_call rfl orcU_hit))) ?_
      refine DrawG.pick (n := 5) (i := 3) (by decide +kernel) rfl (gS (v := (.agg (p.map (eI .u64)))) (sv (d_load rfl (ldA (E := (eI .u64)) (l := p) ti84 rfl rfl (arr_len h_11))))) <| DrawG.pick (n := 4) (i := 4) (by decide +kernel) rfl (gS (v := (.agg (x29.1.map (eI .u64)))) (sv (d_load rfl (ldA (E := (eI .u64)) (l := x29.1) ti84 rfl rfl (arr_len h_7))))) <| DrawG.pick (n := 3) (i := 5) (by decide +kernel) rfl (gU (fun _ => (Vm.Fn.pure (group_Exp_ok N p x29.1 x37 h_12) zR zR)) rfl (sv (d_call rfl orcU_hit))) ?_
      refine DrawG.pick (n := 2) (i := 6) (by decide +kernel) rfl (gU (fun _ => (Vm.Fn.pure (group_Mul_ok N x34 x37 x38 h_14) zR zR)) rfl (sv (d_call rfl orcU_hit))) <| DrawG.pick (n := 1) (i := 7) (by decide +kernel) rfl (gS (v := (.ptr 4 0)) (h' := [some ⟨84, p.map (eI .u64)⟩, some ⟨25, vm.map (eI .u8)⟩, some ⟨88, (ar4 (eI .u64) s_E (ar4 (eI .u64) s_S []))⟩, some ⟨84, x29.1.map (eI .u64)⟩, some ⟨84, (List.replicate 4 0).map (eI .u64)⟩]) (sv (d_alloc ti84 rfl rfl rfl))) ?_
      refine DrawG.pick (n := 0) (i := 8) (by decide +kernel) rfl (gN (h' := [some ⟨84, p.map (eI .u64)⟩, some ⟨25, vm.map (eI .u8)⟩, some ⟨88, (ar4 (eI .u64) s_E (ar4 (eI .u64) s_S []))⟩, some ⟨84, x29.1.map (eI .u64)⟩, some ⟨84, x38.map (eI .u64)⟩]) (sv (d_store rfl rfl (stA (E := (eI .u64)) (l := List.replicate 4 0) ti84 rfl rfl (fun _ => rfl) rfl (arr_len h_16) rfl)))) <| DrawG.nil (by decide +kernel) <| Ex.then_mk <| AB.seq ?_
      replace hr := bnd hr; obtain ⟨q_5, h_17, hr⟩ := hr
      replace hr := bnd hr; obtain ⟨x44, h_18, hr⟩ := hr
      replace hr := bnd hr; obtain ⟨q_6, h_20, hr⟩ := hr
      have hc19 : Vm.Fn Tryd.prog 55 [some ⟨84, p.map (eI .u64)⟩, some ⟨25, vm.map (eI .u8)⟩, some ⟨88, (ar4 (eI .u64) s_E (ar4 (eI .u64) s_S []))⟩, some ⟨84, x29.1.map (eI .u64)⟩, some ⟨84, x38.map (eI .u64)⟩] [(.agg (x38.map (eI .u64))), (.agg (p.map (eI .u64))), (.agg (vm.map (eI .u8)))] (.agg (x44.map (eI .u64))) [some ⟨84, p.map (eI .u64)⟩, some ⟨25, vm.map (eI .u8)⟩, some ⟨88, (ar4 (eI .u64) s_E (ar4 (eI .u64) s_S []))⟩, some ⟨84, x29.1.map (eI .u64)⟩, some ⟨84, x38.map (eI .u64)⟩] := (Vm.Fn.pure (sign_Challenge_ok N x38 p vm x44 h_18) zR zR)
      refine AB.rg (Env.one mixed hc19 allF (fun _ _ => rfl)) (fun _ => by show drawOk allF _ = true; decide +kernel) <| tS (v := (.ptr 2 0)) (sv (d_fa rfl (fap88_0 ..))) <| tS (v := (.agg (s_E.map (eI .u64)))) (sv (d_load rfl (ldP rfl (to4 (arr_len h_4) (partN (ds := (ar4 (eI .u64) s_E [])) ti84 rfl zl rfl))))) <| tS (v := (.agg (x38.map (eI .u64)))) (sv (d_load rfl (ldA (E := (eI .u64)) (l := x38) ti84 rfl rfl (arr_len h_16)))) <| tS (v := (.agg (p.map (eI .u64)))) (sv (d_load rfl (ldA (E := (eI .u64)) (l := p) ti84 rfl rfl (arr_len h_11)))) ?_
      refine tS (v := (.agg (vm.map (eI .u8)))) (sv (d_load rfl (ldA (E := (eI .u8)) (l := vm) ti25 rfl rfl (arr_len h_17)))) <| tS (v := (.agg (x44.map (eI .u64)))) (h' := [some ⟨84, p.map (eI .u64)⟩, some ⟨25, vm.map (eI .u8)⟩, some ⟨88, (ar4 (eI .u64) s_E (ar4 (eI .u64) s_S []))⟩, some ⟨84, x29.1.map (eI .u64)⟩, some ⟨84, x38.map (eI .u64)⟩]) (sv (d_call rfl Env.one_O)) <| tS (sv (d_bin rfl rfl (bin_eqlA _ _ ti84 ti75 rfl dep (arr_len h_4) (arr_len h_20)))) <| tS (sv (d_assign rfl)) <| OpsTo.nil <| Ex.then_mk <| AB.ret ?_
      obtain rfl := Option.some.inj hr
      exact done_ret (r1 := (eB (s_E == x44))) (res1 Tryd.results45 (rvT rfl)) (zG [])
  replace hr := bnd hr; obtain ⟨q_7, h_21, hr⟩ := hr
  replace hr := bnd hr; obtain ⟨x12, h_22, hr⟩ := hr
  rcases Bool.eq_false_or_eq_true (!x12) with h23 | h23
  · replace hr := iteT hr h23
    refine AB.rw <| wS (v := (.ptr 2 0)) (sv (d_fa rfl (fap88_0 ..))) <| wS (v := (.agg (s_E.map (eI .u64)))) (sv (d_load rfl (ldP rfl (to4 (arr_len h_21) (partN (ds := (ar4 (eI .u64) s_E [])) ti84 rfl zl rfl))))) <| wC rfl (Vm.Fn.pure (sign_scalar_ok N s_E x12 h_22) zR rfl) <| wS (sv (d_un rfl (un_not _ _))) <| zm rfl <| wS (svX rfl rfl h23) <| wS (svX rfl rfl h23) <| wS (svX rfl rfl h23) <| wS (svX rfl rfl h23) <| wS (v := (eB true)) (sv (d_pickT rfl h23 rfl)) <| zm rfl <| wS (svX rfl rfl rfl) <| wS (svX rfl rfl rfl) <| wS (svX rfl rfl rfl) <| wS (v := (eB true)) (sv (d_pickT rfl rfl rfl)) <| zn ?_
    exact hG1 _ _ _ _ (zG [0, 1, 2]) (J1 true hr)
  · replace hr := iteF hr h23
    replace hr := bnd hr; obtain ⟨q_8, h_24, hr⟩ := hr
    replace hr := bnd hr; obtain ⟨x17, h_25, hr⟩ := hr
    rcases Bool.eq_false_or_eq_true (!x17) with h26 | h26
    · replace hr := iteT hr h26
      refine AB.rw <| wS (v := (.ptr 2 0)) (sv (d_fa rfl (fap88_0 ..))) <| wS (v := (.agg (s_E.map (eI .u64)))) (sv (d_load rfl (ldP rfl (to4 (arr_len h_21) (partN (ds := (ar4 (eI .u64) s_E [])) ti84 rfl zl rfl))))) <| wC rfl (Vm.Fn.pure (sign_scalar_ok N s_E x12 h_22) zR rfl) <| wS (sv (d_un rfl (un_not _ _))) <| zm rfl <| wS (v := (.ptr 2 4)) (svG rfl rfl h23 (d_fa rfl (fap88_1 ..))) <| wS (v := (.agg (s_S.map (eI .u64)))) (svG rfl rfl h23 (d_load rfl (ldP rfl (to4 (arr_len h_24) (partN (ds := (ar4 (eI .u64) s_S [])) ti84 rfl zl rfl))))) ?_
      refine wCG (v := (eB x17)) (h' := [some ⟨84, p.map (eI .u64)⟩, some ⟨25, vm.map (eI .u8)⟩, some ⟨88, (ar4 (eI .u64) s_E (ar4 (eI .u64) s_S []))⟩]) rfl rfl h23 rfl (Vm.Fn.pure (sign_scalar_ok N s_S x17 h_25) zR rfl) <| wS (svG rfl rfl h23 (d_un rfl (un_not _ _))) <| wS (v := (eB (!x17))) (sv (d_pickF rfl h23 rfl)) <| zm rfl <| wS (svX rfl rfl h26) <| wS (svX rfl rfl h26) <| wS (svX rfl rfl h26) <| wS (v := (eB true)) (sv (d_pickT rfl h26 rfl)) <| zn ?_
      exact hG1 _ _ _ _ (zG [0, 1, 2]) (J1 true hr)
    · replace hr := iteF hr h26
      replace hr := bnd hr; obtain ⟨q_9, h_27, hr⟩ := hr
      replace hr := bnd hr; obtain ⟨x22, h_28, hr⟩ := hr
      refine AB.rw <| wS (v := (.ptr 2 0)) (sv (d_fa rfl (fap88_0 ..))) <| wS (v := (.agg (s_E.map (eI .u64)))) (sv (d_load rfl (ldP rfl (to4 (arr_len h_21) (partN (ds := (ar4 (eI .u64) s_E [])) ti84 rfl zl rfl))))) <| wC rfl (Vm.Fn.pure (sign_scalar_ok N s_E x12 h_22) zR rfl) <| wS (sv (d_un rfl (un_not _ _))) <| zm rfl <| wS (v := (.ptr 2 4)) (svG rfl rfl h23 (d_fa rfl (fap88_1 ..))) <| wS (v := (.agg (s_S.map (eI .u64)))) (svG rfl rfl h23 (d_load rfl (ldP rfl (to4 (arr_len h_24) (partN (ds := (ar4 (eI .u64) s_S [])) ti84 rfl zl rfl))))) ?_
      refine wCG (v := (eB x17)) (h' := [some ⟨84, p.map (eI .u64)⟩, some ⟨25, vm.map (eI .u8)⟩, some ⟨88, (ar4 (eI .u64) s_E (ar4 (eI .u64) s_S []))⟩]) rfl rfl h23 rfl (Vm.Fn.pure (sign_scalar_ok N s_S x17 h_25) zR rfl) <| wS (svG rfl rfl h23 (d_un rfl (un_not _ _))) <| wS (v := (eB (!x17))) (sv (d_pickF rfl h23 rfl)) <| zm rfl <| wS (v := (.agg (p.map (eI .u64)))) (svG rfl rfl h26 (d_load rfl (ldA (E := (eI .u64)) (l := p) ti84 rfl rfl (arr_len h_27)))) ?_
      refine wCG (v := (eB x22)) (h' := [some ⟨84, p.map (eI .u64)⟩, some ⟨25, vm.map (eI .u8)⟩, some ⟨88, (ar4 (eI .u64) s_E (ar4 (eI .u64) s_S []))⟩]) rfl rfl h26 rfl (Vm.Fn.pure (sign_Valid_ok N p x22 h_28) zR rfl) <| wS (svG rfl rfl h26 (d_un rfl (un_not _ _))) <| wS (v := (eB (!x22))) (sv (d_pickF rfl h26 rfl)) <| zn ?_
      exact hG1 _ _ _ _ (zG [0, 1, 2]) (J1 (!x22) hr)
set_option maxRecDepth 20000 in
set_option maxHeartbeats 1000000 in
theorem script_machine_verify_ok (N : Nat) (m_Env_Message : List Int) (m_Env_Height : Int) (m_Env_Age : Int) (m_stack : List (List Int)) (m_branches : List S_script_branch) (m_cost : Int) (key : List Int) (signature : List Int) (r : Int) (hr : script_machine_verify N m_Env_Message m_Env_Height m_Env_Age m_stack m_branches m_cost key signature = some r) :
    Vm.Fn Tryd.prog 39 [some ⟨49, (ar32 (eI .u8) m_Env_Message [(eI .i64 m_Env_Height), (eI .i64 m_Env_Age), (.sl 1 0 m_stack.length 1 false), (.sl 2 0 m_branches.length 2 true), (eI .i64 m_cost)])⟩, some ⟨22, m_stack.map (eL 1 (eI .u8))⟩, some ⟨62, m_branches.flatMap C_script_branch⟩] [(.ptr 0 0), (.row none 1 (key.map (eI .u8))), (.row none 1 (signature.map (eI .u8)))] (eI .i64 r) [some ⟨49, (ar32 (eI .u8) m_Env_Message [(eI .i64 m_Env_Height), (eI .i64 m_Env_Age), (.sl 1 0 m_stack.length 1 false), (.sl 2 0 m_branches.length 2 true), (eI .i64 m_cost)])⟩, some ⟨22, m_stack.map (eL 1 (eI .u8))⟩, some ⟨62, m_branches.flatMap C_script_branch⟩] := by
  refine fn_ab Tryd.func39 rfl (by kernel_rfl) Tryd.ntmps39 zl rfl (fr := [(0, (.ptr 0 0)), (1, (.row none 1 (key.map (eI .u8)))), (2, (.row none 1 (signature.map (eI .u8))))]) rfl ?_
  unfold script_machine_verify at hr
  refine zq <| wS (v := (eI .i64 0)) (sv (d_assign rfl)) <| zn <| AB.seq <| zq <| zm rfl <| wS (v := (eI .i64 (key.length : Int))) (sv (d_len rfl (lenR ti22))) <| wS (v := (eB ((key.length : Int) != 32))) (sv (d_bin rfl rfl (bin_neq ..))) <| zn ?_
  refine AB.cnd rfl (fun h1 => ?_) (fun h1 => ?_)
  · replace hr := iteT hr h1
    refine zq <| wS (v := (eI .i64 60)) (sv (d_assign rfl)) <| zn <| AB.ret <| Ex.then_ret_mk ?_
    obtain rfl := Option.some.inj hr
    exact done_ret (r1 := (eI .i64 60)) (res1 Tryd.results39 (rvT rfl)) (zG [0, 1, 2])
  · replace hr := iteF hr h1
    refine AB.skip <| Ex.then_mk <| AB.seq ?_
    replace hr := bnd hr; obtain ⟨x14, h_2, hr⟩ := hr
    replace hr := bnd hr; obtain ⟨x16, h_3, hr⟩ := hr
    replace hr := bnd hr; obtain ⟨q, h_4, hr⟩ := hr
    refine AB.rw <| zm rfl <| wS (v := (.eptr [.agg (x14.map (eI .u8))] 0 0)) (sv (d_sap rfl (apR (E := (eI .u8)) ti25 (fun _ => rfl) zl h_2))) <| wS (v := (.agg (x14.map (eI .u8)))) (sv (d_load rfl (ldAE (E := (eI .u8)) (l := x14) ti25 rfl (arp_len h_2)))) <| wC rfl (Vm.Fn.pure (wide_FromBytes_ok N x14 x16 h_3) zR zR) ?_
    refine wS (v := (.ptr 3 0)) (h' := [some ⟨49, (ar32 (eI .u8) m_Env_Message [(eI .i64 m_Env_Height), (eI .i64 m_Env_Age), (.sl 1 0 m_stack.length 1 false), (.sl 2 0 m_branches.length 2 true), (eI .i64 m_cost)])⟩, some ⟨22, m_stack.map (eL 1 (eI .u8))⟩, some ⟨62, m_branches.flatMap C_script_branch⟩, some ⟨84, (List.replicate 4 0).map (eI .u64)⟩]) (sv (d_alloc ti84 rfl rfl rfl)) ?_
    refine wN (h' := [some ⟨49, (ar32 (eI .u8) m_Env_Message [(eI .i64 m_Env_Height), (eI .i64 m_Env_Age), (.sl 1 0 m_stack.length 1 false), (.sl 2 0 m_branches.length 2 true), (eI .i64 m_cost)])⟩, some ⟨22, m_stack.map (eL 1 (eI .u8))⟩, some ⟨62, m_branches.flatMap C_script_branch⟩, some ⟨84, x16.map (eI .u64)⟩]) (sv (d_store rfl rfl (stA (E := (eI .u64)) (l := List.replicate 4 0) ti84 rfl rfl (fun _ => rfl) rfl (arr_len h_4) rfl))) <| zn <| AB.seq <| AB.seq ?_
    replace hr := bnd hr; obtain ⟨x18, h_5, hr⟩ := hr
    refine AB.rw <| wS (v := (.agg (x16.map (eI .u64)))) (sv (d_load rfl (ldA (E := (eI .u64)) (l := x16) ti84 rfl rfl (arr_len h_4)))) <| wC rfl (Vm.Fn.pure (sign_Valid_ok N x16 x18 h_5) zR rfl) <| wS (sv (d_un rfl (un_not _ _))) <| zn ?_
    refine AB.cnd rfl (fun h6 => ?_) (fun h6 => ?_)
    · replace hr := iteT hr h6
      refine zq <| wS (v := (eI .i64 60)) (sv (d_assign rfl)) <| zn <| AB.ret <| Ex.then_ret_mk ?_
      obtain rfl := Option.some.inj hr
      exact done_ret (r1 := (eI .i64 60)) (res1 Tryd.results39 (rvT rfl)) (zG [0, 1, 2])
    · replace hr := iteF hr h6
      refine AB.skip <| Ex.then_mk <| AB.seq <| zq <| zm rfl <| wS (v := (eI .i64 (signature.length : Int))) (sv (d_len rfl (lenR ti22))) <| wS (v := (eB ((signature.length : Int) == 0))) (sv (d_bin rfl rfl (bin_eql ..))) <| zn ?_
      refine AB.cnd rfl (fun h7 => ?_) (fun h7 => ?_)
      · replace hr := iteT hr h7
        refine zq <| wS (v := (eI .i64 0)) (sv (d_assign rfl)) <| zn <| AB.ret <| Ex.then_ret_mk ?_
        obtain rfl := Option.some.inj hr
        exact done_ret (r1 := (eI .i64 0)) (res1 Tryd.results39 (rvT rfl)) (zG [0, 1, 2])
      · replace hr := iteF hr h7
        refine AB.skip <| Ex.then_mk <| AB.seq ?_
        replace hr := bnd hr; obtain ⟨x25, h_8, hr⟩ := hr
        refine AB.rw <| zm rfl <| wC rfl (Vm.Fn.pure (sign_Decode_ok N signature x25 h_8) rfl rfl) <| zm rfl <| wS (v := (.agg (ar4 (eI .u64) x25.1 (ar4 (eI .u64) x25.2.1 [])))) (sv (d_ext rfl rfl)) <| wS (v := (eI .i64 x25.2.2)) (sv (d_ext rfl rfl)) ?_
        refine wS (v := (.ptr 4 0)) (h' := [some ⟨49, (ar32 (eI .u8) m_Env_Message [(eI .i64 m_Env_Height), (eI .i64 m_Env_Age), (.sl 1 0 m_stack.length 1 false), (.sl 2 0 m_branches.length 2 true), (eI .i64 m_cost)])⟩, some ⟨22, m_stack.map (eL 1 (eI .u8))⟩, some ⟨62, m_branches.flatMap C_script_branch⟩, some ⟨84, x16.map (eI .u64)⟩, some ⟨88, (ar4 (eI .u64) (List.replicate 4 0) (ar4 (eI .u64) (List.replicate 4 0) []))⟩]) (sv (d_alloc ti88 rfl rfl rfl)) ?_
        refine wN (h' := [some ⟨49, (ar32 (eI .u8) m_Env_Message [(eI .i64 m_Env_Height), (eI .i64 m_Env_Age), (.sl 1 0 m_stack.length 1 false), (.sl 2 0 m_branches.length 2 true), (eI .i64 m_cost)])⟩, some ⟨22, m_stack.map (eL 1 (eI .u8))⟩, some ⟨62, m_branches.flatMap C_script_branch⟩, some ⟨84, x16.map (eI .u64)⟩, some ⟨88, (ar4 (eI .u64) x25.1 (ar4 (eI .u64) x25.2.1 []))⟩]) (sv (d_store rfl rfl (stP ti88 rfl rfl rfl zl rfl))) <| za rfl <| zn <| AB.seq ?_
        refine AB.seq_g fun K1 hK1 hG1 => ?_
        have J1 : ∀ (x40 : Bool), script_machine_verify_J1 N m_Env_Message m_Env_Height m_Env_Age m_stack m_branches m_cost x40 = some r → K1 (mkF 41 [(40, (eB x40))]) [some ⟨49, (ar32 (eI .u8) m_Env_Message [(eI .i64 m_Env_Height), (eI .i64 m_Env_Age), (.sl 1 0 m_stack.length 1 false), (.sl 2 0 m_branches.length 2 true), (eI .i64 m_cost)])⟩, some ⟨22, m_stack.map (eL 1 (eI .u8))⟩, some ⟨62, m_branches.flatMap C_script_branch⟩] := by
          intro x40 hr
          unfold script_machine_verify_J1 at hr
          refine hK1 _ _ ?_
          refine AB.cnd rfl (fun h9 => ?_) (fun h9 => ?_)
          · replace hr := iteT hr h9
            refine zq <| wS (v := (eI .i64 61)) (sv (d_assign rfl)) <| zn <| AB.ret <| Ex.then_ret_mk ?_
            obtain rfl := Option.some.inj hr
            exact done_ret (r1 := (eI .i64 61)) (res1 Tryd.results39 (rvT rfl)) (zG [0, 1, 2])
          · replace hr := iteF hr h9
            refine AB.skip <| Ex.then_mk <| zq <| wS (v := (eI .i64 0)) (sv (d_assign rfl)) <| zn <| AB.ret ?_
            obtain rfl := Option.some.inj hr
            exact done_ret (r1 := (eI .i64 0)) (res1 Tryd.results39 (rvT rfl)) (zG [0, 1, 2])
        rcases Bool.eq_false_or_eq_true (x25.2.2 != 0) with h10 | h10
        · replace hr := iteT hr h10
          refine AB.rg E1 (fun _ => by show drawOk allF _ = true; decide +kernel) <| tS (sv (d_move rfl)) <| tS (v := (eB (x25.2.2 != 0))) (sv (d_bin rfl rfl (bin_neq ..))) <| tS (sv (d_move rfl)) <| tS (svX rfl rfl h10) <| tS (svX rfl rfl h10) <| tS (svX rfl rfl h10) <| tS (svX rfl rfl h10) <| tS (svX rfl rfl h10) <| tS (svX rfl rfl h10) <| tS (svX rfl rfl h10) <| tS (svX rfl rfl h10) <| tS (svX rfl rfl h10) <| tS (v := (eB true)) (sv (d_pickT rfl h10 rfl)) <| OpsTo.nil <| Ex.then_mk ?_
          exact hG1 _ _ _ _ (zG [0, 1, 2]) (J1 true hr)
        · replace hr := iteF hr h10
          replace hr := bnd hr; obtain ⟨q_1, h_11, hr⟩ := hr
          replace hr := bnd hr; obtain ⟨x38, h_12, hr⟩ := hr
          have hc13 : Vm.Fn Tryd.prog 45 [some ⟨49, (ar32 (eI .u8) m_Env_Message [(eI .i64 m_Env_Height), (eI .i64 m_Env_Age), (.sl 1 0 m_stack.length 1 false), (.sl 2 0 m_branches.length 2 true), (eI .i64 m_cost)])⟩, some ⟨22, m_stack.map (eL 1 (eI .u8))⟩, some ⟨62, m_branches.flatMap C_script_branch⟩, some ⟨84, x16.map (eI .u64)⟩, some ⟨88, (ar4 (eI .u64) x25.1 (ar4 (eI .u64) x25.2.1 []))⟩] [(.agg (x16.map (eI .u64))), (.agg (m_Env_Message.map (eI .u8))), (.agg (ar4 (eI .u64) x25.1 (ar4 (eI .u64) x25.2.1 [])))] (eB x38) [some ⟨49, (ar32 (eI .u8) m_Env_Message [(eI .i64 m_Env_Height), (eI .i64 m_Env_Age), (.sl 1 0 m_stack.length 1 false), (.sl 2 0 m_branches.length 2 true), (eI .i64 m_cost)])⟩, some ⟨22, m_stack.map (eL 1 (eI .u8))⟩, some ⟨62, m_branches.flatMap C_script_branch⟩, some ⟨84, x16.map (eI .u64)⟩, some ⟨88, (ar4 (eI .u64) x25.1 (ar4 (eI .u64) x25.2.1 []))⟩] := (Vm.Fn.pure (sign_Verify_ok N x16 m_Env_Message x25.1 x25.2.1 x38 h_12) zR rfl)
          refine AB.rg (Env.one mixed hc13 allF (fun _ _ => rfl)) (fun _ => by show drawOk allF _ = true; decide +kernel) <| tS (sv (d_move rfl)) <| tS (v := (eB (x25.2.2 != 0))) (sv (d_bin rfl rfl (bin_neq ..))) <| tS (sv (d_move rfl)) <| tS (v := (.agg (x16.map (eI .u64)))) (svG rfl rfl h10 (d_load rfl (ldA (E := (eI .u64)) (l := x16) ti84 rfl rfl (arr_len h_4)))) <| tS (svG rfl rfl h10 (d_move rfl)) <| tS (v := (.ptr 0 0)) (svG rfl rfl h10 (d_nilP rfl)) <| tS (v := (.ptr 0 0)) (svG rfl rfl h10 (d_fa rfl (fap49_0 ..))) <| tS (v := (.ptr 0 0)) (svG rfl rfl h10 (d_fa rfl (fap27_0 ..))) ?_
          refine tS (v := (.agg (m_Env_Message.map (eI .u8)))) (svG rfl rfl h10 (d_load rfl (ldP rfl (to32 (arr_len h_11) (partN (ds := (ar32 (eI .u8) m_Env_Message [])) ti25 rfl zl rfl))))) <| tS (v := (.agg (ar4 (eI .u64) x25.1 (ar4 (eI .u64) x25.2.1 [])))) (svG rfl rfl h10 (d_load rfl (ldP rfl (partN (ds := (ar4 (eI .u64) x25.1 (ar4 (eI .u64) x25.2.1 []))) ti88 rfl zl rfl)))) ?_
          refine tS (v := (eB x38)) (h' := [some ⟨49, (ar32 (eI .u8) m_Env_Message [(eI .i64 m_Env_Height), (eI .i64 m_Env_Age), (.sl 1 0 m_stack.length 1 false), (.sl 2 0 m_branches.length 2 true), (eI .i64 m_cost)])⟩, some ⟨22, m_stack.map (eL 1 (eI .u8))⟩, some ⟨62, m_branches.flatMap C_script_branch⟩, some ⟨84, x16.map (eI .u64)⟩, some ⟨88, (ar4 (eI .u64) x25.1 (ar4 (eI .u64) x25.2.1 []))⟩]) (svG rfl rfl h10 (d_call rfl Env.one_O)) <| tS (svG rfl rfl h10 (d_un rfl (un_not _ _))) <| tS (v := (eB (!x38))) (sv (d_pickF rfl h10 rfl)) <| OpsTo.nil <| Ex.then_mk ?_
          exact hG1 _ _ _ _ (zG [0, 1, 2]) (J1 (!x38) hr)
set_option maxRecDepth 20000 in
set_option maxHeartbeats 1000000 in
theorem script_machine_signed_ok (N : Nat) (m_Env_Message : List Int) (m_Env_Height : Int) (m_Env_Age : Int) (m_stack : List (List Int)) (m_branches : List S_script_branch) (m_cost : Int) (least : Int) (vn : Int) (r : Int × (List Int) × Int × Int × (List (List Int)) × (List S_script_branch) × Int) (hr : script_machine_signed N m_Env_Message m_Env_Height m_Env_Age m_stack m_branches m_cost least vn = some r) :
    Vm.Fn Tryd.prog 34 [some ⟨49, (ar32 (eI .u8) m_Env_Message [(eI .i64 m_Env_Height), (eI .i64 m_Env_Age), (.sl 1 0 m_stack.length 1 false), (.sl 2 0 m_branches.length 2 true), (eI .i64 m_cost)])⟩, some ⟨22, m_stack.map (eL 1 (eI .u8))⟩, some ⟨62, m_branches.flatMap C_script_branch⟩] [(.ptr 0 0), (eI .i64 least), (eI .i64 vn)] (eI .i64 r.1) [some ⟨49, (ar32 (eI .u8) r.2.1 [(eI .i64 r.2.2.1), (eI .i64 r.2.2.2.1), (.sl 3 0 r.2.2.2.2.1.length 1 false), (.sl 4 0 r.2.2.2.2.2.1.length 2 true), (eI .i64 r.2.2.2.2.2.2)])⟩, none, none, some ⟨22, r.2.2.2.2.1.map (eL 1 (eI .u8))⟩, some ⟨62, r.2.2.2.2.2.1.flatMap C_script_branch⟩] := by
  refine fn_ab Tryd.func34 rfl (by kernel_rfl) Tryd.ntmps34 zl rfl (fr := [(0, (.ptr 0 0)), (1, (eI .i64 least)), (2, (eI .i64 vn))]) rfl ?_
  unfold script_machine_signed at hr
  refine zq <| wS (v := (eI .i64 0)) (sv (d_assign rfl)) <| zn <| AB.seq ?_
  replace hr := bnd hr; obtain ⟨x23, h_1, hr⟩ := hr
  refine AB.rg E0 (fun _ => by show drawOk (fun _ => false) _ = true; decide +kernel) <| tS (sv (d_move rfl)) <| tS (v := (.ptr 0 0)) (sv (d_nilP rfl)) <| tS (v := (.ptr 0 34)) (sv (d_fa rfl (fap49_1 ..))) <| tS (v := (.sl 1 0 m_stack.length 1 false)) (sv (d_load rfl (ldP rfl (part1 ti23 rfl rfl)))) <| tS (sv (d_move rfl)) <| tS (v := (.ptr 0 0)) (sv (d_nilP rfl)) <| tS (v := (.ptr 0 34)) (sv (d_fa rfl (fap49_1 ..))) <| tS (v := (.sl 1 0 m_stack.length 1 false)) (sv (d_load rfl (ldP rfl (part1 ti23 rfl rfl)))) <| tS (v := (eI .i64 (m_stack.length : Int))) (sv (d_len rfl (lenS ti23))) ?_
  refine tS (sv (d_move rfl)) <| tS (sv (d_bin rfl rfl (bin_sub ..))) <| tS (v := (.sl 1 (Int.toNat (IntKind.i64.wrap ((m_stack.length : Int) - vn)) * 1) x23.length 1 false)) (sv (d_slice rfl rfl rfl (slSS (l := m_stack) rfl ti23 ti22 rfl rfl rfl h_1))) <| tS (sv (d_assign rfl)) <| OpsTo.nil <| Ex.then_mk <| AB.seq ?_
  replace hr := bnd hr; obtain ⟨x43, h_2, hr⟩ := hr
  refine AB.rg E0 (fun _ => by show drawOk (fun _ => false) _ = true; decide +kernel) <| tS (sv (d_move rfl)) <| tS (v := (.ptr 0 0)) (sv (d_nilP rfl)) <| tS (v := (.ptr 0 34)) (sv (d_fa rfl (fap49_1 ..))) <| tS (v := (.sl 1 0 m_stack.length 1 false)) (sv (d_load rfl (ldP rfl (part1 ti23 rfl rfl)))) <| tS (sv (d_move rfl)) <| tS (v := (.ptr 0 0)) (sv (d_nilP rfl)) <| tS (v := (.ptr 0 34)) (sv (d_fa rfl (fap49_1 ..))) <| tS (v := (.sl 1 0 m_stack.length 1 false)) (sv (d_load rfl (ldP rfl (part1 ti23 rfl rfl)))) <| tS (v := (eI .i64 (m_stack.length : Int))) (sv (d_len rfl (lenS ti23))) ?_
  refine tS (sv (d_move rfl)) <| tS (v := (eI .i64 (IntKind.i64.wrap (2 * vn)))) (sv (d_bin rfl rfl (bin_mul ..))) <| tS (sv (d_bin rfl rfl (bin_sub ..))) <| tS (sv (d_move rfl)) <| tS (v := (.ptr 0 0)) (sv (d_nilP rfl)) <| tS (v := (.ptr 0 34)) (sv (d_fa rfl (fap49_1 ..))) <| tS (v := (.sl 1 0 m_stack.length 1 false)) (sv (d_load rfl (ldP rfl (part1 ti23 rfl rfl)))) <| tS (v := (eI .i64 (m_stack.length : Int))) (sv (d_len rfl (lenS ti23))) <| tS (sv (d_move rfl)) <| tS (sv (d_bin rfl rfl (bin_sub ..))) ?_
  refine tS (v := (.sl 1 (Int.toNat (IntKind.i64.wrap ((m_stack.length : Int) - (IntKind.i64.wrap (2 * vn)))) * 1) x43.length 1 false)) (sv (d_slice rfl rfl rfl (slSS (l := m_stack) rfl ti23 ti22 rfl rfl rfl h_2))) <| tS (sv (d_assign rfl)) <| OpsTo.nil <| Ex.then_mk <| zq <| wS (v := (eI .i64 0)) (sv (d_assign rfl)) <| zn ?_
  refine AB.seq_g fun K1 hK1 hG1 => ?_
  have J1 : ∀ (count : Int), script_machine_signed_J1 N m_Env_Message m_Env_Height m_Env_Age m_stack m_branches m_cost least vn count = some r → K1 (mkF 78 [(0, (.ptr 0 0)), (1, (eI .i64 least)), (2, (eI .i64 vn)), (9, (eI .i64 count))]) [some ⟨49, (ar32 (eI .u8) m_Env_Message [(eI .i64 m_Env_Height), (eI .i64 m_Env_Age), (.sl 1 0 m_stack.length 1 false), (.sl 2 0 m_branches.length 2 true), (eI .i64 m_cost)])⟩, some ⟨22, m_stack.map (eL 1 (eI .u8))⟩, some ⟨62, m_branches.flatMap C_script_branch⟩] := by
    intro count hr
    unfold script_machine_signed_J1 at hr
    refine hK1 _ _ <| AB.seq ?_
    replace hr := bnd hr; obtain ⟨x76, h_3, hr⟩ := hr
    replace hr := bnd hr; obtain ⟨x77, h_4, hr⟩ := hr
    refine AB.rw <| zm rfl <| zm rfl <| wS (v := (eI .i64 (IntKind.i64.wrap (2 * vn)))) (sv (d_bin rfl rfl (bin_mul ..))) <| zm rfl <| zm rfl <| wS (sv (d_bin rfl rfl (bin_geq ..))) <| wC (v := (.sl 3 0 x76.length 1 false)) (h' := [some ⟨49, (ar32 (eI .u8) m_Env_Message [(eI .i64 m_Env_Height), (eI .i64 m_Env_Age), (.sl 1 0 m_stack.length 1 false), (.sl 2 0 m_branches.length 2 true), (eI .i64 m_cost)])⟩, some ⟨22, m_stack.map (eL 1 (eI .u8))⟩, some ⟨62, m_branches.flatMap C_script_branch⟩, some ⟨5, x76.map (eI .u8)⟩]) rfl (zB (script_flag_ok N (decide (least ≤ count)) x76 h_3) []) ?_
    refine OpsW.ghost (Ghost.conv (fr' := [(0, (.ptr 0 0)), (1, (eI .i64 least)), (2, (eI .i64 vn)), (9, (eI .i64 count)), (70, (.ptr 0 0)), (71, (eI .i64 vn)), (72, (eI .i64 (IntKind.i64.wrap (2 * vn)))), (73, (eI .i64 count)), (74, (eI .i64 least)), (75, (eB (decide (least ≤ count)))), (76, (.row none 1 (x76.map (eI .u8))))]) (h' := [some ⟨49, (ar32 (eI .u8) m_Env_Message [(eI .i64 m_Env_Height), (eI .i64 m_Env_Age), (.sl 1 0 m_stack.length 1 false), (.sl 2 0 m_branches.length 2 true), (eI .i64 m_cost)])⟩, some ⟨22, m_stack.map (eL 1 (eI .u8))⟩, some ⟨62, m_branches.flatMap C_script_branch⟩, none]) (FCv.cons rfl (Conv.same (subB_sub rfl)) (FCv.cons rfl (Conv.same (subB_sub rfl)) (FCv.cons rfl (Conv.same (subB_sub rfl)) (FCv.cons rfl (Conv.same (subB_sub rfl)) (FCv.cons rfl (Conv.same (subB_sub rfl)) (FCv.cons rfl (Conv.same (subB_sub rfl)) (FCv.cons rfl (Conv.same (subB_sub rfl)) (FCv.cons rfl (Conv.same (subB_sub rfl)) (FCv.cons rfl (Conv.same (subB_sub rfl)) (FCv.cons rfl (Conv.same (subB_sub rfl)) (FCv.cons rfl (Conv.row (subB_sub rfl) rfl rfl (all_mapE (fun _ => rfl)) (by first | rfl | (simp only [List.length_map, len_set, len_cpy]; done))) FCv.nil))))))))))) (HCv.live (Convs.same (subB_sub rfl)) rfl (HCv.live (Convs.same (subB_sub rfl)) (all_map (fun _ => rfl) _) (HCv.live (Convs.same (subB_sub rfl)) (all_flat (fun _ => rfl) _) (HCv.dead HCv.nil))))) ?_
    refine wC (v := (.tup [])) (h' := [some ⟨49, (ar32 (eI .u8) x77.1 [(eI .i64 x77.2.1), (eI .i64 x77.2.2.1), (.sl 4 0 x77.2.2.2.1.length 1 false), (.sl 5 0 x77.2.2.2.2.1.length 2 true), (eI .i64 x77.2.2.2.2.2)])⟩, none, none, none, some ⟨22, x77.2.2.2.1.map (eL 1 (eI .u8))⟩, some ⟨62, x77.2.2.2.2.1.flatMap C_script_branch⟩]) rfl (zB (script_machine_replace_ok N m_Env_Message m_Env_Height m_Env_Age m_stack m_branches m_cost (IntKind.i64.wrap (2 * vn)) x76 x77 h_4) [0, 1, 2]) <| zn <| zq <| wS (v := (eI .i64 0)) (sv (d_assign rfl)) <| zn <| AB.ret ?_
    obtain rfl := Option.some.inj hr
    exact done_ret (r1 := (eI .i64 0)) (res1 Tryd.results34 (rvT rfl)) (zG [0, 1, 2, 4, 5])
  refine zq <| zm rfl <| wS (v := (eI .i64 0)) (sv (d_move rfl)) <| zn ?_
  replace hr := bnd hr; obtain ⟨res2, hL2, hr⟩ := hr
  refine AB.block ?_
  refine AB.loopN (fun m s h => ∃ (count_1 : Int) (x45 : Int), script_machine_signed_L2 N m_Env_Message m_Env_Height m_Env_Age m_stack m_branches m_cost least vn x23 x43 m count_1 x45 = some res2 ∧ Ghost 3 s h (mkF 78 [(0, (.ptr 0 0)), (1, (eI .i64 least)), (2, (eI .i64 vn)), (7, (.sl 1 (Int.toNat (IntKind.i64.wrap ((m_stack.length : Int) - vn)) * 1) x23.length 1 false)), (8, (.sl 1 (Int.toNat (IntKind.i64.wrap ((m_stack.length : Int) - (IntKind.i64.wrap (2 * vn)))) * 1) x43.length 1 false)), (9, (eI .i64 count_1)), (44, (eI .i64 vn)), (45, (eI .i64 x45))]) [some ⟨49, (ar32 (eI .u8) m_Env_Message [(eI .i64 m_Env_Height), (eI .i64 m_Env_Age), (.sl 1 0 m_stack.length 1 false), (.sl 2 0 m_branches.length 2 true), (eI .i64 m_cost)])⟩, some ⟨22, m_stack.map (eL 1 (eI .u8))⟩, some ⟨62, m_branches.flatMap C_script_branch⟩]) (n := N) ⟨0, 0, hL2, (zG [0, 1, 2])⟩ (by rintro s h ⟨_, _, h0, _⟩; simp [script_machine_signed_L2] at h0) ?_
  rintro m2 s h ⟨count_1, x45, hr2, hg⟩
  refine AB.ghost hg ?_
  clear hg hL2
  rw [script_machine_signed_L2] at hr2
  refine zq <| wS (sv (d_bin rfl rfl (bin_lss ..))) <| zn <| AB.seq ?_
  refine AB.cnd rfl (fun h5 => ?_) (fun h5 => ?_)
  · replace hr2 := iteT hr2 h5
    refine AB.skip <| Ex.then_mk ?_
    refine AB.seq_g fun K3 hK3 hG3 => ?_
    have J3 : ∀ (count_2 : Int), script_machine_signed_J3 N m_Env_Message m_Env_Height m_Env_Age m_stack m_branches m_cost least vn x23 x43 x45 (script_machine_signed_L2 N m_Env_Message m_Env_Height m_Env_Age m_stack m_branches m_cost least vn x23 x43 m2) count_2 = some res2 → K3 (mkF 78 [(0, (.ptr 0 0)), (1, (eI .i64 least)), (2, (eI .i64 vn)), (7, (.sl 1 (Int.toNat (IntKind.i64.wrap ((m_stack.length : Int) - vn)) * 1) x23.length 1 false)), (8, (.sl 1 (Int.toNat (IntKind.i64.wrap ((m_stack.length : Int) - (IntKind.i64.wrap (2 * vn)))) * 1) x43.length 1 false)), (9, (eI .i64 count_2)), (44, (eI .i64 vn)), (45, (eI .i64 x45))]) [some ⟨49, (ar32 (eI .u8) m_Env_Message [(eI .i64 m_Env_Height), (eI .i64 m_Env_Age), (.sl 1 0 m_stack.length 1 false), (.sl 2 0 m_branches.length 2 true), (eI .i64 m_cost)])⟩, some ⟨22, m_stack.map (eL 1 (eI .u8))⟩, some ⟨62, m_branches.flatMap C_script_branch⟩] := by
      intro count_2 hr2
      unfold script_machine_signed_J3 at hr2
      refine hK3 _ _ <| AB.rw <| wS (v := (eI .i64 (IntKind.i64.wrap (x45 + 1)))) (sv (d_bin rfl rfl (bin_add ..))) <| zm rfl <| zn ?_
      exact ⟨count_2, IntKind.i64.wrap (x45 + 1), hr2, (zG [0, 1, 2])⟩
    refine AB.block <| zq <| zm rfl <| za rfl <| zn <| AB.seq <| AB.seq ?_
    replace hr2 := bnd hr2; obtain ⟨x51, h_6, hr2⟩ := hr2
    replace hr2 := bnd hr2; obtain ⟨x55, h_7, hr2⟩ := hr2
    replace hr2 := bnd hr2; obtain ⟨x57, h_8, hr2⟩ := hr2
    have hc9 : Vm.Fn Tryd.prog 39 [some ⟨49, (ar32 (eI .u8) m_Env_Message [(eI .i64 m_Env_Height), (eI .i64 m_Env_Age), (.sl 1 0 m_stack.length 1 false), (.sl 2 0 m_branches.length 2 true), (eI .i64 m_cost)])⟩, some ⟨22, m_stack.map (eL 1 (eI .u8))⟩, some ⟨62, m_branches.flatMap C_script_branch⟩] [(.ptr 0 0), (.row none 1 (x51.map (eI .u8))), (.row none 1 (x55.map (eI .u8)))] (eI .i64 x57) [some ⟨49, (ar32 (eI .u8) m_Env_Message [(eI .i64 m_Env_Height), (eI .i64 m_Env_Age), (.sl 1 0 m_stack.length 1 false), (.sl 2 0 m_branches.length 2 true), (eI .i64 m_cost)])⟩, some ⟨22, m_stack.map (eL 1 (eI .u8))⟩, some ⟨62, m_branches.flatMap C_script_branch⟩] := (zB (script_machine_verify_ok N m_Env_Message m_Env_Height m_Env_Age m_stack m_branches m_cost x51 x55 x57 h_8) [0, 1, 2])
    refine AB.rg (Env.one mixed hc9 noF (fun _ h => by cases h)) (fun _ => by show drawOk noF _ = true; decide +kernel) <| tS (sv (d_move rfl)) <| tS (sv (d_move rfl)) <| tS (sv (d_move rfl)) <| tS (v := (.ptr 1 (Int.toNat (IntKind.i64.wrap ((m_stack.length : Int) - vn)) + Int.toNat x45))) (sv (d_ia rfl rfl (iaY rfl ti23 ti22 rfl h_6))) <| tS (v := (.row none 1 (x51.map (eI .u8)))) (sv (d_load rfl (ldY (E := (eL 1 (eI .u8))) (l := m_stack) (y := x51) ti22 rfl rfl h_1 h_6))) <| tS (sv (d_move rfl)) <| tS (sv (d_move rfl)) ?_
    refine tS (v := (.ptr 1 (Int.toNat (IntKind.i64.wrap ((m_stack.length : Int) - (IntKind.i64.wrap (2 * vn)))) + Int.toNat x45))) (sv (d_ia rfl rfl (iaY rfl ti23 ti22 rfl h_7))) <| tS (v := (.row none 1 (x55.map (eI .u8)))) (sv (d_load rfl (ldY (E := (eL 1 (eI .u8))) (l := m_stack) (y := x55) ti22 rfl rfl h_2 h_7))) ?_
    refine tS (v := (eI .i64 x57)) (h' := [some ⟨49, (ar32 (eI .u8) m_Env_Message [(eI .i64 m_Env_Height), (eI .i64 m_Env_Age), (.sl 1 0 m_stack.length 1 false), (.sl 2 0 m_branches.length 2 true), (eI .i64 m_cost)])⟩, some ⟨22, m_stack.map (eL 1 (eI .u8))⟩, some ⟨62, m_branches.flatMap C_script_branch⟩]) (sv (d_call rfl Env.one_O)) <| tS (sv (d_assign rfl)) <| OpsTo.nil <| Ex.then_mk <| zq <| zm rfl <| wS (v := (eB (x57 != 0))) (sv (d_bin rfl rfl (bin_neq ..))) <| zn ?_
    refine AB.cnd rfl (fun h10 => ?_) (fun h10 => ?_)
    · replace hr2 := iteT hr2 h10
      refine zq <| zm rfl <| za rfl <| zn <| AB.ret <| Ex.then_ret_mk <| Ex.inBlock_ret_mk <| Ex.then_ret_mk <| Ex.then_ret_mk <| Ex.inBlock_ret_mk <| Ex.then_ret_mk ?_
      obtain rfl := Option.some.inj hr2
      obtain rfl := Option.some.inj hr
      exact done_ret (r1 := (eI .i64 x57)) (res1 Tryd.results34 (rvT rfl)) (zG [0, 1, 2, 1, 2])
    · replace hr2 := iteF hr2 h10
      refine AB.skip <| Ex.then_mk <| zq <| zm rfl <| zm rfl <| wS (v := (.ptr 1 (Int.toNat (IntKind.i64.wrap ((m_stack.length : Int) - (IntKind.i64.wrap (2 * vn)))) + Int.toNat x45))) (sv (d_ia rfl rfl (iaY rfl ti23 ti22 rfl h_7))) <| wS (v := (.row none 1 (x55.map (eI .u8)))) (sv (d_load rfl (ldY (E := (eL 1 (eI .u8))) (l := m_stack) (y := x55) ti22 rfl rfl h_2 h_7))) <| wS (v := (eI .i64 (x55.length : Int))) (sv (d_len rfl (lenR ti22))) <| wS (v := (eB (decide (0 < (x55.length : Int))))) (sv (d_bin rfl rfl (bin_gtr ..))) <| zn ?_
      refine AB.cnd rfl (fun h11 => ?_) (fun h11 => ?_)
      · replace hr2 := iteT hr2 h11
        refine AB.rw <| zm rfl <| wS (v := (eI .i64 (IntKind.i64.wrap (count_1 + 1)))) (sv (d_bin rfl rfl (bin_add ..))) <| za rfl <| OpsW.nil <| Ex.inBlock_mk <| Ex.then_mk ?_
        exact hG3 _ _ _ _ (zG [0, 1, 2]) (J3 (IntKind.i64.wrap (count_1 + 1)) hr2)
      · replace hr2 := iteF hr2 h11
        refine AB.skip <| Ex.inBlock_mk <| Ex.then_mk ?_
        exact hG3 _ _ _ _ (zG [0, 1, 2]) (J3 count_1 hr2)
  · replace hr2 := iteF hr2 h5
    refine AB.exit <| Ex.then_exit_mk <| Ex.then_exit_mk <| Ex.inBlock_same_mk ?_
    obtain rfl := Option.some.inj hr2
    refine Ex.then_mk ?_
    exact hG1 _ _ _ _ (zG [0, 1, 2]) (J1 count_1 hr)
set_option maxRecDepth 20000 in
set_option maxHeartbeats 1000000 in
theorem script_Number_ok (N : Nat) (b : List Int) (r : Int × Int) (hr : script_Number N b = some r) :
    Vm.Fn Tryd.prog 10 [] [(.row none 1 (b.map (eI .u8)))] (.tup [(eI .u32 r.1), (eI .i64 r.2)]) [] := by
  refine fn_ab Tryd.func10 rfl (by kernel_rfl) Tryd.ntmps10 zl rfl (fr := [(0, (.row none 1 (b.map (eI .u8))))]) rfl ?_
  unfold script_Number at hr
  refine zq <| wS (v := (eI .u32 0)) (sv (d_assign rfl)) <| wS (v := (eI .i64 0)) (sv (d_assign rfl)) <| zn <| AB.seq ?_
  refine AB.seq_g fun K1 hK1 hG1 => ?_
  have J1 : ∀ (x23 : Bool), script_Number_J1 N b x23 = some r → K1 (mkF 40 [(0, (.row none 1 (b.map (eI .u8)))), (23, (eB x23))]) [] := by
    intro x23 hr
    unfold script_Number_J1 at hr
    refine hK1 _ _ ?_
    refine AB.cnd rfl (fun h1 => ?_) (fun h1 => ?_)
    · replace hr := iteT hr h1
      refine zq <| wS (v := (eI .u32 0)) (sv (d_assign rfl)) <| wS (v := (eI .i64 82)) (sv (d_assign rfl)) <| zn <| AB.ret <| Ex.then_ret_mk ?_
      obtain rfl := Option.some.inj hr
      exact done_ret (r1 := (.tup [(eI .u32 0), (eI .i64 82)])) (res2 Tryd.results10 (rvT rfl) (rvT rfl)) (zG [])
    · replace hr := iteF hr h1
      refine AB.skip <| Ex.then_mk <| zq <| wS (v := (eI .u32 0)) (sv (d_assign rfl)) <| zn ?_
      refine AB.seq_g fun K2 hK2 hG2 => ?_
      have J2 : ∀ (vn : Int), script_Number_J2 N vn = some r → K2 (mkF 40 [(4, (eI .u32 vn))]) [] := by
        intro vn hr
        unfold script_Number_J2 at hr
        refine hK2 _ _ <| zq <| zm rfl <| za rfl <| wS (v := (eI .i64 0)) (sv (d_assign rfl)) <| zn <| AB.ret ?_
        obtain rfl := Option.some.inj hr
        exact done_ret (r1 := (.tup [(eI .u32 vn), (eI .i64 0)])) (res2 Tryd.results10 (rvT rfl) (rvT rfl)) (zG [])
      refine zq <| zm rfl <| wS (v := (eI .i64 (b.length : Int))) (sv (d_len rfl (lenR ti22))) <| wS (v := (eI .i64 0)) (sv (d_move rfl)) <| zn ?_
      replace hr := bnd hr; obtain ⟨res3, hL3, hr⟩ := hr
      refine AB.block <| AB.loopN (fun m s h => ∃ (vn_1 : Int) (x26 : Int), script_Number_L3 N b m vn_1 x26 = some res3 ∧ Ghost 0 s h (mkF 40 [(4, (eI .u32 vn_1)), (24, (.row none 1 (b.map (eI .u8)))), (25, (eI .i64 (b.length : Int))), (26, (eI .i64 x26))]) []) (n := N) ⟨0, 0, hL3, (zG [])⟩ (by rintro s h ⟨_, _, h0, _⟩; simp [script_Number_L3] at h0) ?_
      rintro m3 s h ⟨vn_1, x26, hr3, hg⟩
      refine AB.ghost hg ?_
      clear hg hL3
      rw [script_Number_L3] at hr3
      refine zq <| wS (sv (d_bin rfl rfl (bin_lss ..))) <| zn <| AB.seq ?_
      refine AB.cnd rfl (fun h2 => ?_) (fun h2 => ?_)
      · replace hr3 := iteT hr3 h2
        refine AB.skip <| Ex.then_mk <| AB.seq <| AB.block <| AB.seq ?_
        replace hr3 := bnd hr3; obtain ⟨x29, h_3, hr3⟩ := hr3
        refine AB.rw <| zm rfl <| wS (sv (d_ia rfl rfl (iaR ti22 ti5 h_3))) <| wS (v := (eI .u8 x29)) (sv (d_load rfl (ldR h_3 (part1 ti5 rfl rfl)))) <| za rfl <| za rfl <| zn ?_
        replace hr3 := bnd hr3; obtain ⟨x36, h_4, hr3⟩ := hr3
        refine AB.rw <| zm rfl <| zm rfl <| wS (sv (d_conv rfl (conv_int _ ⟨_, ti5⟩ ti37 rfl))) <| zm rfl <| wS (v := (eI .i64 (IntKind.i64.wrap (8 * x26)))) (sv (d_bin rfl rfl (bin_mul ..))) <| wS (sv (d_bin rfl rfl (bin_shl' _ _ _ _ h_4))) <| wS (sv (d_bin rfl rfl (bin_or ..))) <| za rfl <| OpsW.nil <| Ex.inBlock_mk <| Ex.then_mk <| AB.rw <| wS (v := (eI .i64 (IntKind.i64.wrap (x26 + 1)))) (sv (d_bin rfl rfl (bin_add ..))) <| zm rfl <| zn ?_
        exact ⟨bits .or .u32 vn_1 x36, IntKind.i64.wrap (x26 + 1), hr3, (zG [])⟩
      · replace hr3 := iteF hr3 h2
        refine AB.exit <| Ex.then_exit_mk <| Ex.then_exit_mk <| Ex.inBlock_same_mk ?_
        obtain rfl := Option.some.inj hr3
        refine Ex.then_mk ?_
        exact hG2 _ _ _ _ (zG []) (J2 vn_1 hr)
  rcases Bool.eq_false_or_eq_true (decide (4 < (b.length : Int))) with h5 | h5
  · replace hr := iteT hr h5
    refine AB.rw <| zm rfl <| wS (v := (eI .i64 (b.length : Int))) (sv (d_len rfl (lenR ti22))) <| wS (v := (eB (decide (4 < (b.length : Int))))) (sv (d_bin rfl rfl (bin_gtr ..))) <| zm rfl <| wS (svX rfl rfl h5) <| wS (svX rfl rfl h5) <| wS (svX rfl rfl h5) <| wS (svX rfl rfl h5) <| wS (svU rfl rfl) <| wS (svU rfl rfl) <| wS (svU rfl rfl) <| wS (svU rfl rfl) <| wS (svU rfl rfl) <| wS (svU rfl rfl) <| wS (svU rfl rfl) <| wS (svX rfl rfl h5) <| wS (v := (eB true)) (sv (d_pickT rfl h5 rfl)) <| zn ?_
    exact hG1 _ _ _ _ (zG []) (J1 true hr)
  · replace hr := iteF hr h5
    rcases Bool.eq_false_or_eq_true (decide (0 < (b.length : Int))) with h6 | h6
    · replace hr := iteT hr h6
      replace hr := bnd hr; obtain ⟨x19, h_7, hr⟩ := hr
      refine AB.rw <| zm rfl <| wS (v := (eI .i64 (b.length : Int))) (sv (d_len rfl (lenR ti22))) <| wS (v := (eB (decide (4 < (b.length : Int))))) (sv (d_bin rfl rfl (bin_gtr ..))) <| zm rfl <| wS (svG rfl rfl h5 (d_move rfl)) <| wS (v := (eI .i64 (b.length : Int))) (svG rfl rfl h5 (d_len rfl (lenR ti22))) <| wS (v := (eB (decide (0 < (b.length : Int))))) (svG rfl rfl h5 (d_bin rfl rfl (bin_gtr ..))) <| wS (svG rfl rfl h5 (d_move rfl)) <| wS (svG rfl rfl h6 (d_move rfl)) <| wS (svG rfl rfl h6 (d_move rfl)) <| wS (v := (eI .i64 (b.length : Int))) (svG rfl rfl h6 (d_len rfl (lenR ti22))) ?_
      refine wS (v := (eI .i64 (IntKind.i64.wrap ((b.length : Int) - 1)))) (svG rfl rfl h6 (d_bin rfl rfl (bin_sub ..))) <| wS (svG rfl rfl h6 (d_ia rfl rfl (iaR ti22 ti5 h_7))) <| wS (v := (eI .u8 x19)) (svG rfl rfl h6 (d_load rfl (ldR h_7 (part1 ti5 rfl rfl)))) <| wS (v := (eB (x19 == 0))) (svG rfl rfl h6 (d_bin rfl rfl (bin_eql ..))) <| wS (v := (eB (x19 == 0))) (svG rfl rfl h5 (d_pickT rfl h6 rfl)) <| wS (v := (eB (x19 == 0))) (sv (d_pickF rfl h5 rfl)) <| zn ?_
      exact hG1 _ _ _ _ (zG []) (J1 (x19 == 0) hr)
    · replace hr := iteF hr h6
      refine AB.rw <| zm rfl <| wS (v := (eI .i64 (b.length : Int))) (sv (d_len rfl (lenR ti22))) <| wS (v := (eB (decide (4 < (b.length : Int))))) (sv (d_bin rfl rfl (bin_gtr ..))) <| zm rfl <| wS (svG rfl rfl h5 (d_move rfl)) <| wS (v := (eI .i64 (b.length : Int))) (svG rfl rfl h5 (d_len rfl (lenR ti22))) <| wS (v := (eB (decide (0 < (b.length : Int))))) (svG rfl rfl h5 (d_bin rfl rfl (bin_gtr ..))) <| wS (svG rfl rfl h5 (d_move rfl)) <| wS (svX rfl rfl h6) <| wS (svX rfl rfl h6) <| wS (svX rfl rfl h6) <| wS (svX rfl rfl h6) <| wS (svX rfl rfl h6) <| wS (svX rfl rfl h6) <| wS (svX rfl rfl h6) ?_
      refine wS (v := (eB false)) (svG rfl rfl h5 (d_pickF rfl h6 rfl)) <| wS (v := (eB false)) (sv (d_pickF rfl h5 rfl)) <| zn ?_
      exact hG1 _ _ _ _ (zG []) (J1 false hr)
set_option maxRecDepth 20000 in
set_option maxHeartbeats 1000000 in
theorem script_locked_ok (N : Nat) (item : List Int) (now : Int) (r : Int) (hr : script_locked N item now = some r) :
    Vm.Fn Tryd.prog 35 [] [(.row none 1 (item.map (eI .u8))), (eI .i64 now)] (eI .i64 r) [] := by
  refine fn_ab Tryd.func35 rfl (by kernel_rfl) Tryd.ntmps35 zl rfl (fr := [(0, (.row none 1 (item.map (eI .u8)))), (1, (eI .i64 now))]) rfl ?_
  unfold script_locked at hr
  refine zq <| wS (v := (eI .i64 0)) (sv (d_assign rfl)) <| zn <| AB.seq ?_
  replace hr := bnd hr; obtain ⟨x9, h_1, hr⟩ := hr
  refine AB.rw <| zm rfl <| wC rfl (Vm.Fn.pure (script_Number_ok N item x9 h_1) rfl rfl) <| zm rfl <| wS (v := (eI .u32 x9.1)) (sv (d_ext rfl rfl)) <| wS (v := (eI .i64 x9.2)) (sv (d_ext rfl rfl)) <| za rfl <| za rfl <| zn <| AB.seq <| zq <| zm rfl <| wS (v := (eB (x9.2 != 0))) (sv (d_bin rfl rfl (bin_neq ..))) <| zn ?_
  refine AB.cnd rfl (fun h2 => ?_) (fun h2 => ?_)
  · replace hr := iteT hr h2
    refine zq <| zm rfl <| za rfl <| zn <| AB.ret <| Ex.then_ret_mk ?_
    obtain rfl := Option.some.inj hr
    exact done_ret (r1 := (eI .i64 x9.2)) (res1 Tryd.results35 (rvT rfl)) (zG [])
  · replace hr := iteF hr h2
    refine AB.skip <| Ex.then_mk <| AB.seq <| zq <| zm rfl <| wS (sv (d_conv rfl (conv_int _ ⟨_, ti37⟩ ti2 rfl))) <| zm rfl <| wS (sv (d_bin rfl rfl (bin_gtr ..))) <| zn ?_
    refine AB.cnd rfl (fun h3 => ?_) (fun h3 => ?_)
    · replace hr := iteT hr h3
      refine zq <| wS (v := (eI .i64 85)) (sv (d_assign rfl)) <| zn <| AB.ret <| Ex.then_ret_mk ?_
      obtain rfl := Option.some.inj hr
      exact done_ret (r1 := (eI .i64 85)) (res1 Tryd.results35 (rvT rfl)) (zG [])
    · replace hr := iteF hr h3
      refine AB.skip <| Ex.then_mk <| zq <| wS (v := (eI .i64 0)) (sv (d_assign rfl)) <| zn <| AB.ret ?_
      obtain rfl := Option.some.inj hr
      exact done_ret (r1 := (eI .i64 0)) (res1 Tryd.results35 (rvT rfl)) (zG [])
end Go.Proofs.YtokmcbfnfmpemaaDoor
