/- Walks printed by a program of ours (gen.py): each Go function of the list does what its shallow function says. -/
import Derived.Test.YtidkaiebgjbekaaDoorSh
import Derived.Test.YtidkaiebgjbekaaDoorTyF
set_option linter.unusedVariables false
set_option linter.unusedSimpArgs false
namespace Go.Proofs.YtidkaiebgjbekaaDoor
open Go Go.Vm
set_option maxRecDepth 20000 in
set_option maxHeartbeats 1000000 in
theorem address_Convert_ok (N : Nat) (b : List Int) (r : (List Int)) (hr : address_Convert N b = some r) :
    Vm.Fn Tryd.prog 18 [] [(.row none 1 (b.map (eI .u8)))] (.sl 0 0 r.length 1 false) [some ⟨5, r.map (eI .u8)⟩] := by
  refine fn_ab Tryd.func18 rfl (by kernel_rfl) Tryd.ntmps18 (Nat.le_of_ble_eq_true rfl) rfl (fr := [(0, (.row none 1 (b.map (eI .u8))))]) rfl ?_
  unfold address_Convert at hr
  refine AB.seq ?_
  refine AB.rw ?_
  refine wS (v := (.row (some true) 1 [])) (sv (d_assign rfl)) ?_
  refine OpsW.nil ?_
  refine Ex.then_mk ?_
  refine AB.seq ?_
  refine AB.rw ?_
  refine wS (v := (.row (some true) 1 [])) (sv (d_assign rfl)) ?_
  refine OpsW.nil ?_
  refine Ex.then_mk ?_
  refine AB.seq ?_
  refine AB.rw ?_
  refine wS (v := (eI .u32 0)) (sv (d_assign rfl)) ?_
  refine wS (v := (eI .i64 0)) (sv (d_assign rfl)) ?_
  refine OpsW.nil ?_
  refine Ex.then_mk ?_
  refine AB.seq_g fun K1 hK1 hG1 => ?_
  have J1 : ∀ (held : Int) (vn : Int) (l0 : List Int), address_Convert_J1 N held vn l0 = some r → K1 (mkF 50 [(3, (.sl 0 0 l0.length 1 false)), (4, (eI .u32 held)), (5, (eI .i64 vn))]) [some ⟨5, l0.map (eI .u8)⟩] := by
    intro held vn l0 hr
    unfold address_Convert_J1 at hr
    refine hK1 _ _ ?_
    refine AB.seq_g fun K2 hK2 hG2 => ?_
    have J2 : ∀ (l0_1 : List Int), address_Convert_J2 N l0_1 = some r → K2 (mkF 50 [(3, (.sl 0 0 l0_1.length 1 false))]) [some ⟨5, l0_1.map (eI .u8)⟩] := by
      intro l0_1 hr
      unfold address_Convert_J2 at hr
      refine hK2 _ _ ?_
      refine AB.seq ?_
      refine AB.rw ?_
      refine wS (v := (.sl 0 0 l0_1.length 1 false)) (sv (d_move rfl)) ?_
      refine wS (v := (.sl 0 0 l0_1.length 1 false)) (sv (d_assign rfl)) ?_
      refine OpsW.nil ?_
      refine Ex.then_mk ?_
      refine AB.ret ?_
      obtain rfl := Option.some.inj hr
      exact done_ret (r1 := (.sl 0 0 l0_1.length 1 false)) (res1 Tryd.results18 (rvT rfl)) (Ghost.rn [0] rfl rfl (FLe.same rfl FLe.nil) (HLe.live rfl (les_map (fun _ => rfl) _) (all_map (fun _ => rfl) _) HLe.nil) rfl)
    refine AB.seq ?_
    refine AB.rw ?_
    refine wS (v := (eI .i64 vn)) (sv (d_move rfl)) ?_
    refine wS (v := (eB (decide (0 < vn)))) (sv (d_bin rfl rfl (bin_gtr ..))) ?_
    refine OpsW.nil ?_
    refine Ex.then_mk ?_
    refine AB.cnd rfl (fun h1 => ?_) (fun h1 => ?_)
    · replace hr := iteT hr h1
      replace hr := bnd hr; obtain ⟨x45, h_2, hr⟩ := hr
      replace hr := bnd hr; obtain ⟨x48, h_3, hr⟩ := hr
      refine AB.rw ?_
      refine wS (v := (.sl 0 0 l0.length 1 false)) (sv (d_move rfl)) ?_
      refine wS (v := (eI .u32 held)) (sv (d_move rfl)) ?_
      refine wS (v := (eI .i64 vn)) (sv (d_move rfl)) ?_
      refine wS (v := (eI .i64 (IntKind.i64.wrap (5 - vn)))) (sv (d_bin rfl rfl (bin_sub ..))) ?_
      refine wS (v := (eI .u32 x45)) (sv (d_bin rfl rfl (bin_shl' _ _ _ _ h_2))) ?_
      refine wS (v := (eI .u8 (IntKind.u8.wrap x45))) (sv (d_conv rfl (conv_int _ ⟨_, ti41⟩ ti5 rfl))) ?_
      refine wS (v := (.sl 1 0 1 1 false)) (h' := [some ⟨5, l0.map (eI .u8)⟩, some ⟨5, [IntKind.u8.wrap x45].map (eI .u8)⟩]) (sv (d_buildS rfl (bldL1 (xs := [IntKind.u8.wrap x45].map (eI .u8)) ti22 ti5 (Nat.le_of_ble_eq_true rfl) (Nat.le_of_ble_eq_true rfl) rfl rfl rfl rfl rfl rfl rfl))) ?_
      refine wS (v := (.sl 2 0 x48.length 1 false)) (h' := [none, some ⟨5, [IntKind.u8.wrap x45].map (eI .u8)⟩, some ⟨5, x48.map (eI .u8)⟩]) (sv (d_append rfl rfl (appS (E := (eI .u8)) rfl ti22 ti5 ⟨rfl, rfl, Nat.le_of_ble_eq_true rfl⟩ rfl (srcS rfl rfl) h_3 rfl rfl))) ?_
      refine wS (v := (.sl 2 0 x48.length 1 false)) (sv (d_assign rfl)) ?_
      refine OpsW.nil ?_
      refine Ex.then_mk ?_
      exact hG2 _ _ _ _ (Ghost.rn [2] rfl rfl (FLe.same rfl FLe.nil) (HLe.live rfl (les_map (fun _ => rfl) _) (all_map (fun _ => rfl) _) HLe.nil) rfl) (J2 x48 hr)
    · replace hr := iteF hr h1
      refine AB.skip ?_
      refine Ex.then_mk ?_
      exact hG2 _ _ _ _ (Ghost.rn [0] rfl rfl (FLe.same rfl FLe.nil) (HLe.live rfl (les_map (fun _ => rfl) _) (all_map (fun _ => rfl) _) HLe.nil) rfl) (J2 l0 hr)
  refine AB.seq ?_
  refine AB.rw ?_
  refine wS (v := (.row none 1 (b.map (eI .u8)))) (sv (d_move rfl)) ?_
  refine wS (v := (eI .i64 (b.length : Int))) (sv (d_len rfl (lenR ti22))) ?_
  refine wS (v := (eI .i64 0)) (sv (d_move rfl)) ?_
  refine OpsW.nil ?_
  refine Ex.then_mk ?_
  replace hr := bnd hr; obtain ⟨res3, hL3, hr⟩ := hr
  refine AB.block ?_
  refine AB.loopN (fun m s h => ∃ (held_1 : Int) (vn_1 : Int) (x10 : Int) (l0_2 : List Int), address_Convert_L3 N b m held_1 vn_1 x10 l0_2 = some res3 ∧ Ghost 0 s h (mkF 50 [(3, (.sl 0 0 l0_2.length 1 false)), (4, (eI .u32 held_1)), (5, (eI .i64 vn_1)), (8, (.row none 1 (b.map (eI .u8)))), (9, (eI .i64 (b.length : Int))), (10, (eI .i64 x10))]) [some ⟨5, l0_2.map (eI .u8)⟩]) (n := N) ⟨0, 0, 0, [], hL3, (Ghost.trans (Ghost.virt (fr' := [(3, (.sl 0 0 0 1 false)), (4, (eI .u32 0)), (5, (eI .i64 0)), (8, (.row none 1 (b.map (eI .u8)))), (9, (eI .i64 (b.length : Int))), (10, (eI .i64 0))]) (h1 := []) 5 (FLe.le rfl (V.le_virt rfl) (FLe.same rfl (FLe.same rfl (FLe.same rfl (FLe.same rfl (FLe.same rfl FLe.nil)))))) HLv.nil) (Ghost.rn [0] rfl rfl (FLe.le rfl (by first | exact V.le_refl _ _ | (simp only [len_set, len_cpy]; exact V.le_refl _ _)) (FLe.same rfl (FLe.same rfl (FLe.same rfl (FLe.same rfl (FLe.same rfl FLe.nil)))))) (HLe.live rfl V.les_nil rfl HLe.nil) rfl))⟩ (by rintro s h ⟨_, _, _, _, h0, _⟩; simp [address_Convert_L3] at h0) ?_
  rintro m3 s h ⟨held_1, vn_1, x10, l0_2, hr3, hg⟩
  refine AB.ghost hg ?_
  clear hg hL3
  rw [address_Convert_L3] at hr3
  refine AB.seq ?_
  refine AB.rw ?_
  refine wS (v := (eB (decide (x10 < (b.length : Int))))) (sv (d_bin rfl rfl (bin_lss ..))) ?_
  refine OpsW.nil ?_
  refine Ex.then_mk ?_
  refine AB.seq ?_
  refine AB.cnd rfl (fun h4 => ?_) (fun h4 => ?_)
  · replace hr3 := iteT hr3 h4
    refine AB.skip ?_
    refine Ex.then_mk ?_
    refine AB.seq_g fun K4 hK4 hG4 => ?_
    have J4 : ∀ (held_2 : Int) (vn_2 : Int) (l0_3 : List Int), address_Convert_J4 N b x10 (address_Convert_L3 N b m3) held_2 vn_2 l0_3 = some res3 → K4 (mkF 50 [(3, (.sl 0 0 l0_3.length 1 false)), (4, (eI .u32 held_2)), (5, (eI .i64 vn_2)), (8, (.row none 1 (b.map (eI .u8)))), (9, (eI .i64 (b.length : Int))), (10, (eI .i64 x10))]) [some ⟨5, l0_3.map (eI .u8)⟩] := by
      intro held_2 vn_2 l0_3 hr3
      unfold address_Convert_J4 at hr3
      refine hK4 _ _ ?_
      refine AB.rw ?_
      refine wS (v := (eI .i64 (IntKind.i64.wrap (x10 + 1)))) (sv (d_bin rfl rfl (bin_add ..))) ?_
      refine wS (v := (eI .i64 (IntKind.i64.wrap (x10 + 1)))) (sv (d_move rfl)) ?_
      refine OpsW.nil ?_
      refine Ex.then_mk ?_
      exact ⟨held_2, vn_2, IntKind.i64.wrap (x10 + 1), l0_3, hr3, (Ghost.rn [0] rfl rfl (FLe.same rfl (FLe.same rfl (FLe.same rfl (FLe.same rfl (FLe.same rfl (FLe.same rfl FLe.nil)))))) (HLe.live rfl (les_map (fun _ => rfl) _) (all_map (fun _ => rfl) _) HLe.nil) rfl)⟩
    refine AB.block ?_
    refine AB.seq ?_
    replace hr3 := bnd hr3; obtain ⟨x12, h_5, hr3⟩ := hr3
    refine AB.rw ?_
    refine wS (sv (d_ia rfl rfl (iaR ti22 ti5 h_5))) ?_
    refine wS (v := (eI .u8 x12)) (sv (d_load rfl (ldR h_5 (part1 ti5 rfl rfl)))) ?_
    refine wS (v := (eI .u8 x12)) (sv (d_assign rfl)) ?_
    refine OpsW.nil ?_
    refine Ex.then_mk ?_
    refine AB.seq ?_
    replace hr3 := bnd hr3; obtain ⟨x15, h_6, hr3⟩ := hr3
    refine AB.rw ?_
    refine wS (v := (eI .u32 held_1)) (sv (d_move rfl)) ?_
    refine wS (v := (eI .u32 x15)) (sv (d_bin rfl rfl (bin_shl' _ _ _ _ h_6))) ?_
    refine wS (v := (eI .u8 x12)) (sv (d_move rfl)) ?_
    refine wS (v := (eI .u32 (IntKind.u32.wrap x12))) (sv (d_conv rfl (conv_int _ ⟨_, ti5⟩ ti41 rfl))) ?_
    refine wS (v := (eI .u32 (bits .or .u32 x15 (IntKind.u32.wrap x12)))) (sv (d_bin rfl rfl (bin_or ..))) ?_
    refine wS (v := (eI .u32 (bits .or .u32 x15 (IntKind.u32.wrap x12)))) (sv (d_assign rfl)) ?_
    refine OpsW.nil ?_
    refine Ex.then_mk ?_
    refine AB.seq ?_
    refine AB.rw ?_
    refine wS (v := (eI .i64 vn_1)) (sv (d_move rfl)) ?_
    refine wS (v := (eI .i64 (IntKind.i64.wrap (vn_1 + 8)))) (sv (d_bin rfl rfl (bin_add ..))) ?_
    refine wS (v := (eI .i64 (IntKind.i64.wrap (vn_1 + 8)))) (sv (d_assign rfl)) ?_
    refine OpsW.nil ?_
    refine Ex.then_mk ?_
    refine AB.seq_g fun K5 hK5 hG5 => ?_
    have J5 : ∀ (vn_3 : Int) (l0_4 : List Int), address_Convert_J5 N b x10 x12 x15 (address_Convert_L3 N b m3) vn_3 l0_4 = some res3 → K5 (mkF 50 [(3, (.sl 0 0 l0_4.length 1 false)), (4, (eI .u32 (bits .or .u32 x15 (IntKind.u32.wrap x12)))), (5, (eI .i64 vn_3)), (8, (.row none 1 (b.map (eI .u8)))), (9, (eI .i64 (b.length : Int))), (10, (eI .i64 x10))]) [some ⟨5, l0_4.map (eI .u8)⟩] := by
      intro vn_3 l0_4 hr3
      unfold address_Convert_J5 at hr3
      refine hK5 _ _ ?_
      replace hr3 := bnd hr3; obtain ⟨x35, h_7, hr3⟩ := hr3
      refine AB.rw ?_
      refine wS (v := (eI .u32 (bits .or .u32 x15 (IntKind.u32.wrap x12)))) (sv (d_move rfl)) ?_
      refine wS (v := (eI .i64 vn_3)) (sv (d_move rfl)) ?_
      refine wS (v := (eI .u32 x35)) (sv (d_bin rfl rfl (bin_shl' _ _ _ _ h_7))) ?_
      refine wS (v := (eI .u32 (IntKind.u32.wrap (x35 - 1)))) (sv (d_bin rfl rfl (bin_sub ..))) ?_
      refine wS (v := (eI .u32 (bits .and .u32 (bits .or .u32 x15 (IntKind.u32.wrap x12)) (IntKind.u32.wrap (x35 - 1))))) (sv (d_bin rfl rfl (bin_and ..))) ?_
      refine wS (v := (eI .u32 (bits .and .u32 (bits .or .u32 x15 (IntKind.u32.wrap x12)) (IntKind.u32.wrap (x35 - 1))))) (sv (d_assign rfl)) ?_
      refine OpsW.nil ?_
      refine Ex.inBlock_mk ?_
      refine Ex.then_mk ?_
      exact hG4 _ _ _ _ (Ghost.rn [0] rfl rfl (FLe.same rfl (FLe.same rfl (FLe.same rfl (FLe.same rfl (FLe.same rfl (FLe.same rfl FLe.nil)))))) (HLe.live rfl (les_map (fun _ => rfl) _) (all_map (fun _ => rfl) _) HLe.nil) rfl) (J4 (bits .and .u32 (bits .or .u32 x15 (IntKind.u32.wrap x12)) (IntKind.u32.wrap (x35 - 1))) vn_3 l0_4 hr3)
    replace hr3 := bnd hr3; obtain ⟨res6, hL6, hr3⟩ := hr3
    refine AB.block ?_
    refine AB.loopN (fun m s h => ∃ (vn_4 : Int) (l0_5 : List Int), address_Convert_L6 N b x10 x12 x15 m vn_4 l0_5 = some res6 ∧ Ghost 0 s h (mkF 50 [(3, (.sl 0 0 l0_5.length 1 false)), (4, (eI .u32 (bits .or .u32 x15 (IntKind.u32.wrap x12)))), (5, (eI .i64 vn_4)), (8, (.row none 1 (b.map (eI .u8)))), (9, (eI .i64 (b.length : Int))), (10, (eI .i64 x10))]) [some ⟨5, l0_5.map (eI .u8)⟩]) (n := N) ⟨IntKind.i64.wrap (vn_1 + 8), l0_2, hL6, (Ghost.rn [0] rfl rfl (FLe.same rfl (FLe.same rfl (FLe.same rfl (FLe.same rfl (FLe.same rfl (FLe.same rfl FLe.nil)))))) (HLe.live rfl (les_map (fun _ => rfl) _) (all_map (fun _ => rfl) _) HLe.nil) rfl)⟩ (by rintro s h ⟨_, _, h0, _⟩; simp [address_Convert_L6] at h0) ?_
    rintro m6 s h ⟨vn_4, l0_5, hr6, hg⟩
    refine AB.ghost hg ?_
    clear hg hL6
    rw [address_Convert_L6] at hr6
    refine AB.seq ?_
    refine AB.seq ?_
    refine AB.rw ?_
    refine wS (v := (eI .i64 vn_4)) (sv (d_move rfl)) ?_
    refine wS (v := (eB (decide (5 ≤ vn_4)))) (sv (d_bin rfl rfl (bin_geq ..))) ?_
    refine OpsW.nil ?_
    refine Ex.then_mk ?_
    refine AB.cnd rfl (fun h8 => ?_) (fun h8 => ?_)
    · replace hr6 := iteT hr6 h8
      refine AB.skip ?_
      refine Ex.then_mk ?_
      refine AB.block ?_
      refine AB.seq ?_
      refine AB.rw ?_
      refine wS (v := (eI .i64 vn_4)) (sv (d_move rfl)) ?_
      refine wS (v := (eI .i64 (IntKind.i64.wrap (vn_4 - 5)))) (sv (d_bin rfl rfl (bin_sub ..))) ?_
      refine wS (v := (eI .i64 (IntKind.i64.wrap (vn_4 - 5)))) (sv (d_assign rfl)) ?_
      refine OpsW.nil ?_
      refine Ex.then_mk ?_
      replace hr6 := bnd hr6; obtain ⟨x28, h_9, hr6⟩ := hr6
      replace hr6 := bnd hr6; obtain ⟨x32, h_10, hr6⟩ := hr6
      refine AB.rw ?_
      refine wS (v := (.sl 0 0 l0_5.length 1 false)) (sv (d_move rfl)) ?_
      refine wS (v := (eI .u32 (bits .or .u32 x15 (IntKind.u32.wrap x12)))) (sv (d_move rfl)) ?_
      refine wS (v := (eI .i64 (IntKind.i64.wrap (vn_4 - 5)))) (sv (d_move rfl)) ?_
      refine wS (v := (eI .u32 x28)) (sv (d_bin rfl rfl (bin_shr' _ _ _ _ h_9))) ?_
      refine wS (v := (eI .u8 (IntKind.u8.wrap x28))) (sv (d_conv rfl (conv_int _ ⟨_, ti41⟩ ti5 rfl))) ?_
      refine wS (v := (eI .u8 (bits .and .u8 (IntKind.u8.wrap x28) 31))) (sv (d_bin rfl rfl (bin_and ..))) ?_
      refine wS (v := (.sl 1 0 1 1 false)) (h' := [some ⟨5, l0_5.map (eI .u8)⟩, some ⟨5, [bits .and .u8 (IntKind.u8.wrap x28) 31].map (eI .u8)⟩]) (sv (d_buildS rfl (bldL1 (xs := [bits .and .u8 (IntKind.u8.wrap x28) 31].map (eI .u8)) ti22 ti5 (Nat.le_of_ble_eq_true rfl) (Nat.le_of_ble_eq_true rfl) rfl rfl rfl rfl rfl rfl rfl))) ?_
      refine wS (v := (.sl 2 0 x32.length 1 false)) (h' := [none, some ⟨5, [bits .and .u8 (IntKind.u8.wrap x28) 31].map (eI .u8)⟩, some ⟨5, x32.map (eI .u8)⟩]) (sv (d_append rfl rfl (appS (E := (eI .u8)) rfl ti22 ti5 ⟨rfl, rfl, Nat.le_of_ble_eq_true rfl⟩ rfl (srcS rfl rfl) h_10 rfl rfl))) ?_
      refine wS (v := (.sl 2 0 x32.length 1 false)) (sv (d_assign rfl)) ?_
      refine OpsW.nil ?_
      refine Ex.inBlock_mk ?_
      refine Ex.then_mk ?_
      exact ⟨IntKind.i64.wrap (vn_4 - 5), x32, hr6, (Ghost.rn [2] rfl rfl (FLe.same rfl (FLe.same rfl (FLe.same rfl (FLe.same rfl (FLe.same rfl (FLe.same rfl FLe.nil)))))) (HLe.live rfl (les_map (fun _ => rfl) _) (all_map (fun _ => rfl) _) HLe.nil) rfl)⟩
    · replace hr6 := iteF hr6 h8
      refine AB.exit ?_
      refine Ex.then_exit_mk ?_
      refine Ex.then_exit_mk ?_
      refine Ex.inBlock_same_mk ?_
      obtain rfl := Option.some.inj hr6
      refine Ex.then_mk ?_
      exact hG5 _ _ _ _ (Ghost.rn [0] rfl rfl (FLe.same rfl (FLe.same rfl (FLe.same rfl (FLe.same rfl (FLe.same rfl (FLe.same rfl FLe.nil)))))) (HLe.live rfl (les_map (fun _ => rfl) _) (all_map (fun _ => rfl) _) HLe.nil) rfl) (J5 vn_4 l0_5 hr3)
  · replace hr3 := iteF hr3 h4
    refine AB.exit ?_
    refine Ex.then_exit_mk ?_
    refine Ex.then_exit_mk ?_
    refine Ex.inBlock_same_mk ?_
    obtain rfl := Option.some.inj hr3
    refine Ex.then_mk ?_
    exact hG1 _ _ _ _ (Ghost.rn [0] rfl rfl (FLe.same rfl (FLe.same rfl (FLe.same rfl FLe.nil))) (HLe.live rfl (les_map (fun _ => rfl) _) (all_map (fun _ => rfl) _) HLe.nil) rfl) (J1 held_1 vn_1 l0_2 hr)
set_option maxRecDepth 20000 in
set_option maxHeartbeats 1000000 in
theorem address_Back_ok (N : Nat) (d : List Int) (r : (List Int) × Int) (hr : address_Back N d = some r) :
    Vm.Fn Tryd.prog 19 [] [(.row none 1 (d.map (eI .u8)))] (.tup [(.sl 0 0 r.1.length 1 false), (eI .i64 r.2)]) [some ⟨5, r.1.map (eI .u8)⟩] := by
  refine fn_ab Tryd.func19 rfl (by kernel_rfl) Tryd.ntmps19 (Nat.le_of_ble_eq_true rfl) rfl (fr := [(0, (.row none 1 (d.map (eI .u8))))]) rfl ?_
  unfold address_Back at hr
  refine AB.seq ?_
  refine AB.rw ?_
  refine wS (v := (.row (some true) 1 [])) (sv (d_assign rfl)) ?_
  refine wS (v := (eI .i64 0)) (sv (d_assign rfl)) ?_
  refine OpsW.nil ?_
  refine Ex.then_mk ?_
  refine AB.seq_g fun K1 hK1 hG1 => ?_
  have J1 : address_Back_J1 N d = some r → K1 (mkF 57 [(0, (.row none 1 (d.map (eI .u8))))]) [] := by
    intro hr
    unfold address_Back_J1 at hr
    refine hK1 _ _ ?_
    refine AB.seq ?_
    refine AB.rw ?_
    refine wS (v := (.row (some true) 1 [])) (sv (d_assign rfl)) ?_
    refine OpsW.nil ?_
    refine Ex.then_mk ?_
    refine AB.seq ?_
    refine AB.rw ?_
    refine wS (v := (eI .u32 0)) (sv (d_assign rfl)) ?_
    refine wS (v := (eI .i64 0)) (sv (d_assign rfl)) ?_
    refine OpsW.nil ?_
    refine Ex.then_mk ?_
    refine AB.seq_g fun K2 hK2 hG2 => ?_
    have J2 : ∀ (held : Int) (vn : Int) (l0 : List Int), address_Back_J2 N held vn l0 = some r → K2 (mkF 57 [(6, (.sl 0 0 l0.length 1 false)), (7, (eI .u32 held)), (8, (eI .i64 vn))]) [some ⟨5, l0.map (eI .u8)⟩] := by
      intro held vn l0 hr
      unfold address_Back_J2 at hr
      refine hK2 _ _ ?_
      refine AB.seq ?_
      refine AB.seq_g fun K3 hK3 hG3 => ?_
      have J3 : ∀ (x55 : Bool), address_Back_J3 N l0 x55 = some r → K3 (mkF 57 [(6, (.sl 0 0 l0.length 1 false)), (55, (eB x55))]) [some ⟨5, l0.map (eI .u8)⟩] := by
        intro x55 hr
        unfold address_Back_J3 at hr
        refine hK3 _ _ ?_
        refine AB.cnd rfl (fun h1 => ?_) (fun h1 => ?_)
        · replace hr := iteT hr h1
          refine AB.seq ?_
          refine AB.rw ?_
          refine wS (v := (.row (some true) 1 [])) (sv (d_assign rfl)) ?_
          refine wS (v := (eI .i64 3)) (sv (d_assign rfl)) ?_
          refine OpsW.nil ?_
          refine Ex.then_mk ?_
          refine AB.ret ?_
          refine Ex.then_ret_mk ?_
          obtain rfl := Option.some.inj hr
          exact done_ret (r1 := (.tup [(.row (some true) 1 []), (eI .i64 3)])) (res2 Tryd.results19 (rvT rfl) (rvT rfl)) (Ghost.trans (Ghost.virt (fr' := [(0, (.tup [(.sl 1 0 0 1 false), (eI .i64 3)]))]) (h1 := [some ⟨5, l0.map (eI .u8)⟩]) 5 (FLe.le rfl (V.le_tup (V.les_cons (V.le_virt rfl) (V.les_cons (V.le_refl _ _) V.les_nil))) FLe.nil) (HLv.live (V.les_refl _ _) (all_map (fun _ => rfl) _) HLv.nil)) (Ghost.rn [1] rfl rfl (FLe.le rfl (V.le_tup (V.les_cons (by first | exact V.le_refl _ _ | (simp only [len_set, len_cpy]; exact V.le_refl _ _)) (V.les_cons (V.le_refl _ _) V.les_nil))) FLe.nil) (HLe.live rfl V.les_nil rfl HLe.nil) rfl))
        · replace hr := iteF hr h1
          refine AB.skip ?_
          refine Ex.then_mk ?_
          refine AB.seq ?_
          refine AB.rw ?_
          refine wS (v := (.sl 0 0 l0.length 1 false)) (sv (d_move rfl)) ?_
          refine wS (v := (.sl 0 0 l0.length 1 false)) (sv (d_assign rfl)) ?_
          refine wS (v := (eI .i64 0)) (sv (d_assign rfl)) ?_
          refine OpsW.nil ?_
          refine Ex.then_mk ?_
          refine AB.ret ?_
          obtain rfl := Option.some.inj hr
          exact done_ret (r1 := (.tup [(.sl 0 0 l0.length 1 false), (eI .i64 0)])) (res2 Tryd.results19 (rvT rfl) (rvT rfl)) (Ghost.rn [0] rfl rfl (FLe.same rfl FLe.nil) (HLe.live rfl (les_map (fun _ => rfl) _) (all_map (fun _ => rfl) _) HLe.nil) rfl)
      rcases Bool.eq_false_or_eq_true (decide (5 ≤ vn)) with h2 | h2
      · replace hr := iteT hr h2
        refine AB.rw ?_
        refine wS (v := (eI .i64 vn)) (sv (d_move rfl)) ?_
        refine wS (v := (eB (decide (5 ≤ vn)))) (sv (d_bin rfl rfl (bin_geq ..))) ?_
        refine wS (v := (eB (decide (5 ≤ vn)))) (sv (d_move rfl)) ?_
        refine wS (svX rfl rfl h2) ?_
        refine wS (svX rfl rfl h2) ?_
        refine wS (v := (eB true)) (sv (d_pickT rfl h2 rfl)) ?_
        refine OpsW.nil ?_
        refine Ex.then_mk ?_
        exact hG3 _ _ _ _ (Ghost.rn [0] rfl rfl (FLe.same rfl (FLe.same rfl FLe.nil)) (HLe.live rfl (les_map (fun _ => rfl) _) (all_map (fun _ => rfl) _) HLe.nil) rfl) (J3 true hr)
      · replace hr := iteF hr h2
        refine AB.rw ?_
        refine wS (v := (eI .i64 vn)) (sv (d_move rfl)) ?_
        refine wS (v := (eB (decide (5 ≤ vn)))) (sv (d_bin rfl rfl (bin_geq ..))) ?_
        refine wS (v := (eB (decide (5 ≤ vn)))) (sv (d_move rfl)) ?_
        refine wS (v := (eI .u32 held)) (svG rfl rfl h2 (d_move rfl)) ?_
        refine wS (v := (eB (held != 0))) (svG rfl rfl h2 (d_bin rfl rfl (bin_neq ..))) ?_
        refine wS (v := (eB (held != 0))) (sv (d_pickF rfl h2 rfl)) ?_
        refine OpsW.nil ?_
        refine Ex.then_mk ?_
        exact hG3 _ _ _ _ (Ghost.rn [0] rfl rfl (FLe.same rfl (FLe.same rfl FLe.nil)) (HLe.live rfl (les_map (fun _ => rfl) _) (all_map (fun _ => rfl) _) HLe.nil) rfl) (J3 (held != 0) hr)
    refine AB.seq ?_
    refine AB.rw ?_
    refine wS (v := (.row none 1 (d.map (eI .u8)))) (sv (d_move rfl)) ?_
    refine wS (v := (eI .i64 (d.length : Int))) (sv (d_len rfl (lenR ti22))) ?_
    refine wS (v := (eI .i64 0)) (sv (d_move rfl)) ?_
    refine OpsW.nil ?_
    refine Ex.then_mk ?_
    replace hr := bnd hr; obtain ⟨res4, hL4, hr⟩ := hr
    refine AB.block ?_
    refine AB.loopN (fun m s h => ∃ (held_1 : Int) (vn_1 : Int) (x22 : Int) (l0_1 : List Int), address_Back_L4 N d m held_1 vn_1 x22 l0_1 = some res4 ∧ Ghost 0 s h (mkF 57 [(6, (.sl 0 0 l0_1.length 1 false)), (7, (eI .u32 held_1)), (8, (eI .i64 vn_1)), (20, (.row none 1 (d.map (eI .u8)))), (21, (eI .i64 (d.length : Int))), (22, (eI .i64 x22))]) [some ⟨5, l0_1.map (eI .u8)⟩]) (n := N) ⟨0, 0, 0, [], hL4, (Ghost.trans (Ghost.virt (fr' := [(6, (.sl 0 0 0 1 false)), (7, (eI .u32 0)), (8, (eI .i64 0)), (20, (.row none 1 (d.map (eI .u8)))), (21, (eI .i64 (d.length : Int))), (22, (eI .i64 0))]) (h1 := []) 5 (FLe.le rfl (V.le_virt rfl) (FLe.same rfl (FLe.same rfl (FLe.same rfl (FLe.same rfl (FLe.same rfl FLe.nil)))))) HLv.nil) (Ghost.rn [0] rfl rfl (FLe.le rfl (by first | exact V.le_refl _ _ | (simp only [len_set, len_cpy]; exact V.le_refl _ _)) (FLe.same rfl (FLe.same rfl (FLe.same rfl (FLe.same rfl (FLe.same rfl FLe.nil)))))) (HLe.live rfl V.les_nil rfl HLe.nil) rfl))⟩ (by rintro s h ⟨_, _, _, _, h0, _⟩; simp [address_Back_L4] at h0) ?_
    rintro m4 s h ⟨held_1, vn_1, x22, l0_1, hr4, hg⟩
    refine AB.ghost hg ?_
    clear hg hL4
    rw [address_Back_L4] at hr4
    refine AB.seq ?_
    refine AB.rw ?_
    refine wS (v := (eB (decide (x22 < (d.length : Int))))) (sv (d_bin rfl rfl (bin_lss ..))) ?_
    refine OpsW.nil ?_
    refine Ex.then_mk ?_
    refine AB.seq ?_
    refine AB.cnd rfl (fun h3 => ?_) (fun h3 => ?_)
    · replace hr4 := iteT hr4 h3
      refine AB.skip ?_
      refine Ex.then_mk ?_
      refine AB.seq_g fun K5 hK5 hG5 => ?_
      have J5 : ∀ (held_2 : Int) (vn_2 : Int) (l0_2 : List Int), address_Back_J5 N d x22 (address_Back_L4 N d m4) held_2 vn_2 l0_2 = some res4 → K5 (mkF 57 [(6, (.sl 0 0 l0_2.length 1 false)), (7, (eI .u32 held_2)), (8, (eI .i64 vn_2)), (20, (.row none 1 (d.map (eI .u8)))), (21, (eI .i64 (d.length : Int))), (22, (eI .i64 x22))]) [some ⟨5, l0_2.map (eI .u8)⟩] := by
        intro held_2 vn_2 l0_2 hr4
        unfold address_Back_J5 at hr4
        refine hK5 _ _ ?_
        refine AB.rw ?_
        refine wS (v := (eI .i64 (IntKind.i64.wrap (x22 + 1)))) (sv (d_bin rfl rfl (bin_add ..))) ?_
        refine wS (v := (eI .i64 (IntKind.i64.wrap (x22 + 1)))) (sv (d_move rfl)) ?_
        refine OpsW.nil ?_
        refine Ex.then_mk ?_
        exact ⟨held_2, vn_2, IntKind.i64.wrap (x22 + 1), l0_2, hr4, (Ghost.rn [0] rfl rfl (FLe.same rfl (FLe.same rfl (FLe.same rfl (FLe.same rfl (FLe.same rfl (FLe.same rfl FLe.nil)))))) (HLe.live rfl (les_map (fun _ => rfl) _) (all_map (fun _ => rfl) _) HLe.nil) rfl)⟩
      refine AB.block ?_
      refine AB.seq ?_
      replace hr4 := bnd hr4; obtain ⟨x24, h_4, hr4⟩ := hr4
      refine AB.rw ?_
      refine wS (sv (d_ia rfl rfl (iaR ti22 ti5 h_4))) ?_
      refine wS (v := (eI .u8 x24)) (sv (d_load rfl (ldR h_4 (part1 ti5 rfl rfl)))) ?_
      refine wS (v := (eI .u8 x24)) (sv (d_assign rfl)) ?_
      refine OpsW.nil ?_
      refine Ex.then_mk ?_
      refine AB.seq ?_
      replace hr4 := bnd hr4; obtain ⟨x27, h_5, hr4⟩ := hr4
      refine AB.rw ?_
      refine wS (v := (eI .u32 held_1)) (sv (d_move rfl)) ?_
      refine wS (v := (eI .u32 x27)) (sv (d_bin rfl rfl (bin_shl' _ _ _ _ h_5))) ?_
      refine wS (v := (eI .u8 x24)) (sv (d_move rfl)) ?_
      refine wS (v := (eI .u32 (IntKind.u32.wrap x24))) (sv (d_conv rfl (conv_int _ ⟨_, ti5⟩ ti41 rfl))) ?_
      refine wS (v := (eI .u32 (bits .or .u32 x27 (IntKind.u32.wrap x24)))) (sv (d_bin rfl rfl (bin_or ..))) ?_
      refine wS (v := (eI .u32 (bits .or .u32 x27 (IntKind.u32.wrap x24)))) (sv (d_assign rfl)) ?_
      refine OpsW.nil ?_
      refine Ex.then_mk ?_
      refine AB.seq ?_
      refine AB.rw ?_
      refine wS (v := (eI .i64 vn_1)) (sv (d_move rfl)) ?_
      refine wS (v := (eI .i64 (IntKind.i64.wrap (vn_1 + 5)))) (sv (d_bin rfl rfl (bin_add ..))) ?_
      refine wS (v := (eI .i64 (IntKind.i64.wrap (vn_1 + 5)))) (sv (d_assign rfl)) ?_
      refine OpsW.nil ?_
      refine Ex.then_mk ?_
      refine AB.seq ?_
      refine AB.rw ?_
      refine wS (v := (eI .i64 (IntKind.i64.wrap (vn_1 + 5)))) (sv (d_move rfl)) ?_
      refine wS (v := (eB (decide (8 ≤ (IntKind.i64.wrap (vn_1 + 5)))))) (sv (d_bin rfl rfl (bin_geq ..))) ?_
      refine OpsW.nil ?_
      refine Ex.then_mk ?_
      refine AB.cnd rfl (fun h6 => ?_) (fun h6 => ?_)
      · replace hr4 := iteT hr4 h6
        refine AB.seq ?_
        refine AB.rw ?_
        refine wS (v := (eI .i64 (IntKind.i64.wrap (vn_1 + 5)))) (sv (d_move rfl)) ?_
        refine wS (v := (eI .i64 (IntKind.i64.wrap ((IntKind.i64.wrap (vn_1 + 5)) - 8)))) (sv (d_bin rfl rfl (bin_sub ..))) ?_
        refine wS (v := (eI .i64 (IntKind.i64.wrap ((IntKind.i64.wrap (vn_1 + 5)) - 8)))) (sv (d_assign rfl)) ?_
        refine OpsW.nil ?_
        refine Ex.then_mk ?_
        refine AB.seq ?_
        replace hr4 := bnd hr4; obtain ⟨x40, h_7, hr4⟩ := hr4
        replace hr4 := bnd hr4; obtain ⟨x43, h_8, hr4⟩ := hr4
        refine AB.rw ?_
        refine wS (v := (.sl 0 0 l0_1.length 1 false)) (sv (d_move rfl)) ?_
        refine wS (v := (eI .u32 (bits .or .u32 x27 (IntKind.u32.wrap x24)))) (sv (d_move rfl)) ?_
        refine wS (v := (eI .i64 (IntKind.i64.wrap ((IntKind.i64.wrap (vn_1 + 5)) - 8)))) (sv (d_move rfl)) ?_
        refine wS (v := (eI .u32 x40)) (sv (d_bin rfl rfl (bin_shr' _ _ _ _ h_7))) ?_
        refine wS (v := (eI .u8 (IntKind.u8.wrap x40))) (sv (d_conv rfl (conv_int _ ⟨_, ti41⟩ ti5 rfl))) ?_
        refine wS (v := (.sl 1 0 1 1 false)) (h' := [some ⟨5, l0_1.map (eI .u8)⟩, some ⟨5, [IntKind.u8.wrap x40].map (eI .u8)⟩]) (sv (d_buildS rfl (bldL1 (xs := [IntKind.u8.wrap x40].map (eI .u8)) ti22 ti5 (Nat.le_of_ble_eq_true rfl) (Nat.le_of_ble_eq_true rfl) rfl rfl rfl rfl rfl rfl rfl))) ?_
        refine wS (v := (.sl 2 0 x43.length 1 false)) (h' := [none, some ⟨5, [IntKind.u8.wrap x40].map (eI .u8)⟩, some ⟨5, x43.map (eI .u8)⟩]) (sv (d_append rfl rfl (appS (E := (eI .u8)) rfl ti22 ti5 ⟨rfl, rfl, Nat.le_of_ble_eq_true rfl⟩ rfl (srcS rfl rfl) h_8 rfl rfl))) ?_
        refine wS (v := (.sl 2 0 x43.length 1 false)) (sv (d_assign rfl)) ?_
        refine OpsW.nil ?_
        refine Ex.then_mk ?_
        replace hr4 := bnd hr4; obtain ⟨x46, h_9, hr4⟩ := hr4
        refine AB.rw ?_
        refine wS (v := (eI .u32 (bits .or .u32 x27 (IntKind.u32.wrap x24)))) (sv (d_move rfl)) ?_
        refine wS (v := (eI .i64 (IntKind.i64.wrap ((IntKind.i64.wrap (vn_1 + 5)) - 8)))) (sv (d_move rfl)) ?_
        refine wS (v := (eI .u32 x46)) (sv (d_bin rfl rfl (bin_shl' _ _ _ _ h_9))) ?_
        refine wS (v := (eI .u32 (IntKind.u32.wrap (x46 - 1)))) (sv (d_bin rfl rfl (bin_sub ..))) ?_
        refine wS (v := (eI .u32 (bits .and .u32 (bits .or .u32 x27 (IntKind.u32.wrap x24)) (IntKind.u32.wrap (x46 - 1))))) (sv (d_bin rfl rfl (bin_and ..))) ?_
        refine wS (v := (eI .u32 (bits .and .u32 (bits .or .u32 x27 (IntKind.u32.wrap x24)) (IntKind.u32.wrap (x46 - 1))))) (sv (d_assign rfl)) ?_
        refine OpsW.nil ?_
        refine Ex.inBlock_mk ?_
        refine Ex.then_mk ?_
        exact hG5 _ _ _ _ (Ghost.rn [2] rfl rfl (FLe.same rfl (FLe.same rfl (FLe.same rfl (FLe.same rfl (FLe.same rfl (FLe.same rfl FLe.nil)))))) (HLe.live rfl (les_map (fun _ => rfl) _) (all_map (fun _ => rfl) _) HLe.nil) rfl) (J5 (bits .and .u32 (bits .or .u32 x27 (IntKind.u32.wrap x24)) (IntKind.u32.wrap (x46 - 1))) (IntKind.i64.wrap ((IntKind.i64.wrap (vn_1 + 5)) - 8)) x43 hr4)
      · replace hr4 := iteF hr4 h6
        refine AB.skip ?_
        refine Ex.inBlock_mk ?_
        refine Ex.then_mk ?_
        exact hG5 _ _ _ _ (Ghost.rn [0] rfl rfl (FLe.same rfl (FLe.same rfl (FLe.same rfl (FLe.same rfl (FLe.same rfl (FLe.same rfl FLe.nil)))))) (HLe.live rfl (les_map (fun _ => rfl) _) (all_map (fun _ => rfl) _) HLe.nil) rfl) (J5 (bits .or .u32 x27 (IntKind.u32.wrap x24)) (IntKind.i64.wrap (vn_1 + 5)) l0_1 hr4)
    · replace hr4 := iteF hr4 h3
      refine AB.exit ?_
      refine Ex.then_exit_mk ?_
      refine Ex.then_exit_mk ?_
      refine Ex.inBlock_same_mk ?_
      obtain rfl := Option.some.inj hr4
      refine Ex.then_mk ?_
      exact hG2 _ _ _ _ (Ghost.rn [0] rfl rfl (FLe.same rfl (FLe.same rfl (FLe.same rfl FLe.nil))) (HLe.live rfl (les_map (fun _ => rfl) _) (all_map (fun _ => rfl) _) HLe.nil) rfl) (J2 held_1 vn_1 l0_1 hr)
  refine AB.seq ?_
  refine AB.rw ?_
  refine wS (v := (.row none 1 (d.map (eI .u8)))) (sv (d_move rfl)) ?_
  refine wS (v := (eI .i64 (d.length : Int))) (sv (d_len rfl (lenR ti22))) ?_
  refine wS (v := (eI .i64 0)) (sv (d_move rfl)) ?_
  refine OpsW.nil ?_
  refine Ex.then_mk ?_
  replace hr := bnd hr; obtain ⟨res6, hL6, hr⟩ := hr
  refine AB.block ?_
  refine AB.loopN (fun m s h => ∃ (x13 : Int), address_Back_L6 N d m x13 = some res6 ∧ Ghost 0 s h (mkF 57 [(0, (.row none 1 (d.map (eI .u8)))), (11, (.row none 1 (d.map (eI .u8)))), (12, (eI .i64 (d.length : Int))), (13, (eI .i64 x13))]) []) (n := N) ⟨0, hL6, (Ghost.rn [] rfl rfl (FLe.same rfl (FLe.same rfl (FLe.same rfl (FLe.same rfl FLe.nil)))) HLe.nil rfl)⟩ (by rintro s h ⟨_, h0, _⟩; simp [address_Back_L6] at h0) ?_
  rintro m6 s h ⟨x13, hr6, hg⟩
  refine AB.ghost hg ?_
  clear hg hL6
  rw [address_Back_L6] at hr6
  refine AB.seq ?_
  refine AB.rw ?_
  refine wS (v := (eB (decide (x13 < (d.length : Int))))) (sv (d_bin rfl rfl (bin_lss ..))) ?_
  refine OpsW.nil ?_
  refine Ex.then_mk ?_
  refine AB.seq ?_
  refine AB.cnd rfl (fun h10 => ?_) (fun h10 => ?_)
  · replace hr6 := iteT hr6 h10
    refine AB.skip ?_
    refine Ex.then_mk ?_
    refine AB.seq ?_
    refine AB.block ?_
    refine AB.seq ?_
    replace hr6 := bnd hr6; obtain ⟨x15, h_11, hr6⟩ := hr6
    refine AB.rw ?_
    refine wS (sv (d_ia rfl rfl (iaR ti22 ti5 h_11))) ?_
    refine wS (v := (eI .u8 x15)) (sv (d_load rfl (ldR h_11 (part1 ti5 rfl rfl)))) ?_
    refine wS (v := (eI .u8 x15)) (sv (d_assign rfl)) ?_
    refine OpsW.nil ?_
    refine Ex.then_mk ?_
    refine AB.seq ?_
    refine AB.rw ?_
    refine wS (v := (eI .u8 x15)) (sv (d_move rfl)) ?_
    refine wS (v := (eB (decide (31 < x15)))) (sv (d_bin rfl rfl (bin_gtr ..))) ?_
    refine OpsW.nil ?_
    refine Ex.then_mk ?_
    refine AB.cnd rfl (fun h12 => ?_) (fun h12 => ?_)
    · replace hr6 := iteT hr6 h12
      refine AB.seq ?_
      refine AB.rw ?_
      refine wS (v := (.row (some true) 1 [])) (sv (d_assign rfl)) ?_
      refine wS (v := (eI .i64 5)) (sv (d_assign rfl)) ?_
      refine OpsW.nil ?_
      refine Ex.then_mk ?_
      refine AB.ret ?_
      refine Ex.inBlock_ret_mk ?_
      refine Ex.then_ret_mk ?_
      refine Ex.then_ret_mk ?_
      refine Ex.inBlock_ret_mk ?_
      refine Ex.then_ret_mk ?_
      obtain rfl := Option.some.inj hr6
      obtain rfl := Option.some.inj hr
      exact done_ret (r1 := (.tup [(.row (some true) 1 []), (eI .i64 5)])) (res2 Tryd.results19 (rvT rfl) (rvT rfl)) (Ghost.trans (Ghost.virt (fr' := [(0, (.tup [(.sl 0 0 0 1 false), (eI .i64 5)]))]) (h1 := []) 5 (FLe.le rfl (V.le_tup (V.les_cons (V.le_virt rfl) (V.les_cons (V.le_refl _ _) V.les_nil))) FLe.nil) HLv.nil) (Ghost.rn [0] rfl rfl (FLe.le rfl (V.le_tup (V.les_cons (by first | exact V.le_refl _ _ | (simp only [len_set, len_cpy]; exact V.le_refl _ _)) (V.les_cons (V.le_refl _ _) V.les_nil))) FLe.nil) (HLe.live rfl V.les_nil rfl HLe.nil) rfl))
    · replace hr6 := iteF hr6 h12
      refine AB.skip ?_
      refine Ex.inBlock_mk ?_
      refine Ex.then_mk ?_
      refine AB.rw ?_
      refine wS (v := (eI .i64 (IntKind.i64.wrap (x13 + 1)))) (sv (d_bin rfl rfl (bin_add ..))) ?_
      refine wS (v := (eI .i64 (IntKind.i64.wrap (x13 + 1)))) (sv (d_move rfl)) ?_
      refine OpsW.nil ?_
      refine Ex.then_mk ?_
      exact ⟨IntKind.i64.wrap (x13 + 1), hr6, (Ghost.rn [] rfl rfl (FLe.same rfl (FLe.same rfl (FLe.same rfl (FLe.same rfl FLe.nil)))) HLe.nil rfl)⟩
  · replace hr6 := iteF hr6 h10
    refine AB.exit ?_
    refine Ex.then_exit_mk ?_
    refine Ex.then_exit_mk ?_
    refine Ex.inBlock_same_mk ?_
    obtain rfl := Option.some.inj hr6
    refine Ex.then_mk ?_
    exact hG1 _ _ _ _ (Ghost.rn [] rfl rfl (FLe.same rfl FLe.nil) HLe.nil rfl) (J1 hr)
set_option maxRecDepth 20000 in
set_option maxHeartbeats 1000000 in
theorem law27_sane_ok (N : Nat) (r : Bool) (hr : law27_sane N = some r) :
    Vm.Fn Tryd.prog 8 [] [] (eB r) [] := by
  refine fn_ab Tryd.func8 rfl (by kernel_rfl) Tryd.ntmps8 (Nat.le_of_ble_eq_true rfl) rfl (fr := []) rfl ?_
  unfold law27_sane at hr
  refine AB.seq ?_
  refine AB.rw ?_
  refine wS (v := (eB false)) (sv (d_assign rfl)) ?_
  refine OpsW.nil ?_
  refine Ex.then_mk ?_
  refine AB.seq ?_
  replace hr := bnd hr; obtain ⟨x5, h_1, hr⟩ := hr
  refine AB.rw ?_
  refine wS (v := (.sl 0 0 1 1 false)) (h' := [some ⟨5, [255].map (eI .u8)⟩]) (sv (d_buildS rfl (bldL1 (xs := [255].map (eI .u8)) ti22 ti5 (Nat.le_of_ble_eq_true rfl) (Nat.le_of_ble_eq_true rfl) rfl rfl rfl rfl rfl rfl rfl))) ?_
  refine wC (v := (.sl 1 0 x5.length 1 false)) (h' := [some ⟨5, [255].map (eI .u8)⟩, some ⟨5, x5.map (eI .u8)⟩]) rfl (Vm.Fn.lendR (address_Convert_ok N [255] x5 h_1) [] [0] (by decide) rfl (by decide) Lend.nil (Brw.row (exp_slT rfl rfl (fun _ => rfl)) Brw.nil) rfl (rfB.live (rfs_map (fun _ => rfl) _) rfB.nil) rfl (by simp only [lent, lendSet, lendSet_nil, rnH, Blk.rn, V.rns, V.rn, sg, List.map_cons, List.map_nil, Option.map_some, Option.map_none, List.drop_succ_cons, List.drop_zero, List.drop_nil, List.set_cons_zero, List.set_cons_succ, List.cons_append, List.nil_append, List.append_nil, rns_eI, rns_eB, rns_eS, rns_eL, List.getElem?_cons_zero, List.getElem?_cons_succ, List.getElem?_nil, List.length_cons, List.length_nil, Nat.reduceAdd, Nat.reduceSub, Nat.add_zero, Nat.zero_add, Nat.sub_self, Nat.sub_zero])) ?_
  refine wS (v := (.sl 1 0 x5.length 1 false)) (sv (d_assign rfl)) ?_
  refine OpsW.nil ?_
  refine Ex.then_mk ?_
  refine AB.seq ?_
  replace hr := bnd hr; obtain ⟨x8, h_2, hr⟩ := hr
  refine AB.rw ?_
  refine wS (v := (.sl 2 0 2 1 false)) (h' := [some ⟨5, [255].map (eI .u8)⟩, some ⟨5, x5.map (eI .u8)⟩, some ⟨5, [31, 29].map (eI .u8)⟩]) (sv (d_buildS rfl (bldL1 (xs := [31, 29].map (eI .u8)) ti22 ti5 (Nat.le_of_ble_eq_true rfl) (Nat.le_of_ble_eq_true rfl) rfl rfl rfl rfl rfl rfl rfl))) ?_
  refine wC (v := (.tup [(.sl 3 0 x8.1.length 1 false), (eI .i64 x8.2)])) (h' := [some ⟨5, [255].map (eI .u8)⟩, some ⟨5, x5.map (eI .u8)⟩, some ⟨5, [31, 29].map (eI .u8)⟩, some ⟨5, x8.1.map (eI .u8)⟩]) rfl (Vm.Fn.lendR (address_Back_ok N [31, 29] x8 h_2) [] [2] (by decide) rfl (by decide) Lend.nil (Brw.row (exp_slT rfl rfl (fun _ => rfl)) Brw.nil) rfl (rfB.live (rfs_map (fun _ => rfl) _) rfB.nil) rfl (by simp only [lent, lendSet, lendSet_nil, rnH, Blk.rn, V.rns, V.rn, sg, List.map_cons, List.map_nil, Option.map_some, Option.map_none, List.drop_succ_cons, List.drop_zero, List.drop_nil, List.set_cons_zero, List.set_cons_succ, List.cons_append, List.nil_append, List.append_nil, rns_eI, rns_eB, rns_eS, rns_eL, List.getElem?_cons_zero, List.getElem?_cons_succ, List.getElem?_nil, List.length_cons, List.length_nil, Nat.reduceAdd, Nat.reduceSub, Nat.add_zero, Nat.zero_add, Nat.sub_self, Nat.sub_zero])) ?_
  refine wS (v := (.tup [(.sl 3 0 x8.1.length 1 false), (eI .i64 x8.2)])) (sv (d_move rfl)) ?_
  refine wS (v := (.sl 3 0 x8.1.length 1 false)) (sv (d_ext rfl rfl)) ?_
  refine wS (v := (eI .i64 x8.2)) (sv (d_ext rfl rfl)) ?_
  refine wS (v := (.sl 3 0 x8.1.length 1 false)) (sv (d_assign rfl)) ?_
  refine wS (v := (eI .i64 x8.2)) (sv (d_assign rfl)) ?_
  refine OpsW.nil ?_
  refine Ex.then_mk ?_
  refine AB.seq_g fun K1 hK1 hG1 => ?_
  have J1 : ∀ (x0 : Bool), law27_sane_J1 N x0 = some r → K1 (mkF 30 [(0, (eB x0))]) [] := by
    intro x0 hr
    unfold law27_sane_J1 at hr
    refine hK1 _ _ ?_
    refine AB.ret ?_
    obtain rfl := Option.some.inj hr
    exact done_ret (r1 := (eB x0)) (res1 Tryd.results8 (rvT rfl)) (Ghost.rn [] rfl rfl (FLe.same rfl FLe.nil) HLe.nil rfl)
  rcases Bool.eq_false_or_eq_true ((x5.length : Int) == 2) with h3 | h3
  · replace hr := iteT hr h3
    replace hr := bnd hr; obtain ⟨x16, h_4, hr⟩ := hr
    rcases Bool.eq_false_or_eq_true (x16 == 31) with h5 | h5
    · replace hr := iteT hr h5
      replace hr := bnd hr; obtain ⟨x22, h_6, hr⟩ := hr
      rcases Bool.eq_false_or_eq_true (x22 == 28) with h7 | h7
      · replace hr := iteT hr h7
        refine AB.rw ?_
        refine wS (v := (.sl 1 0 x5.length 1 false)) (sv (d_move rfl)) ?_
        refine wS (v := (eI .i64 (x5.length : Int))) (sv (d_len rfl (lenS ti22))) ?_
        refine wS (v := (eB ((x5.length : Int) == 2))) (sv (d_bin rfl rfl (bin_eql ..))) ?_
        refine wS (v := (eB ((x5.length : Int) == 2))) (sv (d_move rfl)) ?_
        refine wS (v := (.sl 1 0 x5.length 1 false)) (svG rfl rfl h3 (d_move rfl)) ?_
        refine wS (v := (.ptr 1 (Int.toNat 0))) (svG rfl rfl h3 (d_ia rfl rfl (iaS rfl ti22 ti5 rfl h_4))) ?_
        refine wS (v := (eI .u8 x16)) (svG rfl rfl h3 (d_load rfl (ldX (E := (eI .u8)) (y := x16) ti5 rfl rfl h_4))) ?_
        refine wS (v := (eB (x16 == 31))) (svG rfl rfl h3 (d_bin rfl rfl (bin_eql ..))) ?_
        refine wS (v := (eB (x16 == 31))) (sv (d_pickT rfl h3 rfl)) ?_
        refine wS (v := (eB (x16 == 31))) (sv (d_move rfl)) ?_
        refine wS (v := (.sl 1 0 x5.length 1 false)) (svG rfl rfl h5 (d_move rfl)) ?_
        refine wS (v := (.ptr 1 (Int.toNat 1))) (svG rfl rfl h5 (d_ia rfl rfl (iaS rfl ti22 ti5 rfl h_6))) ?_
        refine wS (v := (eI .u8 x22)) (svG rfl rfl h5 (d_load rfl (ldX (E := (eI .u8)) (y := x22) ti5 rfl rfl h_6))) ?_
        refine wS (v := (eB (x22 == 28))) (svG rfl rfl h5 (d_bin rfl rfl (bin_eql ..))) ?_
        refine wS (v := (eB (x22 == 28))) (sv (d_pickT rfl h5 rfl)) ?_
        refine wS (v := (eB (x22 == 28))) (sv (d_move rfl)) ?_
        refine wS (v := (eI .i64 x8.2)) (svG rfl rfl h7 (d_move rfl)) ?_
        refine wS (v := (eB (x8.2 == 3))) (svG rfl rfl h7 (d_bin rfl rfl (bin_eql ..))) ?_
        refine wS (v := (eB (x8.2 == 3))) (sv (d_pickT rfl h7 rfl)) ?_
        refine wS (v := (eB (x8.2 == 3))) (sv (d_assign rfl)) ?_
        refine OpsW.nil ?_
        refine Ex.then_mk ?_
        exact hG1 _ _ _ _ (Ghost.rn [] rfl rfl (FLe.same rfl FLe.nil) HLe.nil rfl) (J1 (x8.2 == 3) hr)
      · replace hr := iteF hr h7
        refine AB.rw ?_
        refine wS (v := (.sl 1 0 x5.length 1 false)) (sv (d_move rfl)) ?_
        refine wS (v := (eI .i64 (x5.length : Int))) (sv (d_len rfl (lenS ti22))) ?_
        refine wS (v := (eB ((x5.length : Int) == 2))) (sv (d_bin rfl rfl (bin_eql ..))) ?_
        refine wS (v := (eB ((x5.length : Int) == 2))) (sv (d_move rfl)) ?_
        refine wS (v := (.sl 1 0 x5.length 1 false)) (svG rfl rfl h3 (d_move rfl)) ?_
        refine wS (v := (.ptr 1 (Int.toNat 0))) (svG rfl rfl h3 (d_ia rfl rfl (iaS rfl ti22 ti5 rfl h_4))) ?_
        refine wS (v := (eI .u8 x16)) (svG rfl rfl h3 (d_load rfl (ldX (E := (eI .u8)) (y := x16) ti5 rfl rfl h_4))) ?_
        refine wS (v := (eB (x16 == 31))) (svG rfl rfl h3 (d_bin rfl rfl (bin_eql ..))) ?_
        refine wS (v := (eB (x16 == 31))) (sv (d_pickT rfl h3 rfl)) ?_
        refine wS (v := (eB (x16 == 31))) (sv (d_move rfl)) ?_
        refine wS (v := (.sl 1 0 x5.length 1 false)) (svG rfl rfl h5 (d_move rfl)) ?_
        refine wS (v := (.ptr 1 (Int.toNat 1))) (svG rfl rfl h5 (d_ia rfl rfl (iaS rfl ti22 ti5 rfl h_6))) ?_
        refine wS (v := (eI .u8 x22)) (svG rfl rfl h5 (d_load rfl (ldX (E := (eI .u8)) (y := x22) ti5 rfl rfl h_6))) ?_
        refine wS (v := (eB (x22 == 28))) (svG rfl rfl h5 (d_bin rfl rfl (bin_eql ..))) ?_
        refine wS (v := (eB (x22 == 28))) (sv (d_pickT rfl h5 rfl)) ?_
        refine wS (v := (eB (x22 == 28))) (sv (d_move rfl)) ?_
        refine wS (svX rfl rfl h7) ?_
        refine wS (svX rfl rfl h7) ?_
        refine wS (v := (eB false)) (sv (d_pickF rfl h7 rfl)) ?_
        refine wS (v := (eB false)) (sv (d_assign rfl)) ?_
        refine OpsW.nil ?_
        refine Ex.then_mk ?_
        exact hG1 _ _ _ _ (Ghost.rn [] rfl rfl (FLe.same rfl FLe.nil) HLe.nil rfl) (J1 false hr)
    · replace hr := iteF hr h5
      refine AB.rw ?_
      refine wS (v := (.sl 1 0 x5.length 1 false)) (sv (d_move rfl)) ?_
      refine wS (v := (eI .i64 (x5.length : Int))) (sv (d_len rfl (lenS ti22))) ?_
      refine wS (v := (eB ((x5.length : Int) == 2))) (sv (d_bin rfl rfl (bin_eql ..))) ?_
      refine wS (v := (eB ((x5.length : Int) == 2))) (sv (d_move rfl)) ?_
      refine wS (v := (.sl 1 0 x5.length 1 false)) (svG rfl rfl h3 (d_move rfl)) ?_
      refine wS (v := (.ptr 1 (Int.toNat 0))) (svG rfl rfl h3 (d_ia rfl rfl (iaS rfl ti22 ti5 rfl h_4))) ?_
      refine wS (v := (eI .u8 x16)) (svG rfl rfl h3 (d_load rfl (ldX (E := (eI .u8)) (y := x16) ti5 rfl rfl h_4))) ?_
      refine wS (v := (eB (x16 == 31))) (svG rfl rfl h3 (d_bin rfl rfl (bin_eql ..))) ?_
      refine wS (v := (eB (x16 == 31))) (sv (d_pickT rfl h3 rfl)) ?_
      refine wS (v := (eB (x16 == 31))) (sv (d_move rfl)) ?_
      refine wS (svX rfl rfl h5) ?_
      refine wS (svX rfl rfl h5) ?_
      refine wS (svX rfl rfl h5) ?_
      refine wS (svX rfl rfl h5) ?_
      refine wS (v := (eB false)) (sv (d_pickF rfl h5 rfl)) ?_
      refine wS (v := (eB false)) (sv (d_move rfl)) ?_
      refine wS (svX rfl rfl rfl) ?_
      refine wS (svX rfl rfl rfl) ?_
      refine wS (v := (eB false)) (sv (d_pickF rfl rfl rfl)) ?_
      refine wS (v := (eB false)) (sv (d_assign rfl)) ?_
      refine OpsW.nil ?_
      refine Ex.then_mk ?_
      exact hG1 _ _ _ _ (Ghost.rn [] rfl rfl (FLe.same rfl FLe.nil) HLe.nil rfl) (J1 false hr)
  · replace hr := iteF hr h3
    refine AB.rw ?_
    refine wS (v := (.sl 1 0 x5.length 1 false)) (sv (d_move rfl)) ?_
    refine wS (v := (eI .i64 (x5.length : Int))) (sv (d_len rfl (lenS ti22))) ?_
    refine wS (v := (eB ((x5.length : Int) == 2))) (sv (d_bin rfl rfl (bin_eql ..))) ?_
    refine wS (v := (eB ((x5.length : Int) == 2))) (sv (d_move rfl)) ?_
    refine wS (svX rfl rfl h3) ?_
    refine wS (svX rfl rfl h3) ?_
    refine wS (svX rfl rfl h3) ?_
    refine wS (svX rfl rfl h3) ?_
    refine wS (v := (eB false)) (sv (d_pickF rfl h3 rfl)) ?_
    refine wS (v := (eB false)) (sv (d_move rfl)) ?_
    refine wS (svX rfl rfl rfl) ?_
    refine wS (svX rfl rfl rfl) ?_
    refine wS (svX rfl rfl rfl) ?_
    refine wS (svX rfl rfl rfl) ?_
    refine wS (v := (eB false)) (sv (d_pickF rfl rfl rfl)) ?_
    refine wS (v := (eB false)) (sv (d_move rfl)) ?_
    refine wS (svX rfl rfl rfl) ?_
    refine wS (svX rfl rfl rfl) ?_
    refine wS (v := (eB false)) (sv (d_pickF rfl rfl rfl)) ?_
    refine wS (v := (eB false)) (sv (d_assign rfl)) ?_
    refine OpsW.nil ?_
    refine Ex.then_mk ?_
    exact hG1 _ _ _ _ (Ghost.rn [] rfl rfl (FLe.same rfl FLe.nil) HLe.nil rfl) (J1 false hr)
set_option maxRecDepth 20000 in
set_option maxHeartbeats 1000000 in
theorem address_remainder_ok (N : Nat) (c : Int) (digits : List Int) (r : Int) (hr : address_remainder N c digits = some r) :
    Vm.Fn Tryd.prog 20 [] [(eI .u32 c), (.row none 1 (digits.map (eI .u8)))] (eI .u32 r) [] := by
  refine fn_ab Tryd.func20 rfl (by kernel_rfl) Tryd.ntmps20 (Nat.le_of_ble_eq_true rfl) rfl (fr := [(0, (eI .u32 c)), (1, (.row none 1 (digits.map (eI .u8))))]) rfl ?_
  unfold address_remainder at hr
  refine AB.seq ?_
  refine AB.rw ?_
  refine wS (v := (eI .u32 0)) (sv (d_assign rfl)) ?_
  refine OpsW.nil ?_
  refine Ex.then_mk ?_
  refine AB.seq_g fun K1 hK1 hG1 => ?_
  have J1 : ∀ (c_1 : Int), address_remainder_J1 N c_1 = some r → K1 (mkF 39 [(0, (eI .u32 c_1))]) [] := by
    intro c_1 hr
    unfold address_remainder_J1 at hr
    refine hK1 _ _ ?_
    refine AB.seq ?_
    refine AB.rw ?_
    refine wS (v := (eI .u32 c_1)) (sv (d_move rfl)) ?_
    refine wS (v := (eI .u32 c_1)) (sv (d_assign rfl)) ?_
    refine OpsW.nil ?_
    refine Ex.then_mk ?_
    refine AB.ret ?_
    obtain rfl := Option.some.inj hr
    exact done_ret (r1 := (eI .u32 c_1)) (res1 Tryd.results20 (rvT rfl)) (Ghost.rn [] rfl rfl (FLe.same rfl FLe.nil) HLe.nil rfl)
  refine AB.seq ?_
  refine AB.rw ?_
  refine wS (v := (.row none 1 (digits.map (eI .u8)))) (sv (d_move rfl)) ?_
  refine wS (v := (eI .i64 (digits.length : Int))) (sv (d_len rfl (lenR ti22))) ?_
  refine wS (v := (eI .i64 0)) (sv (d_move rfl)) ?_
  refine OpsW.nil ?_
  refine Ex.then_mk ?_
  replace hr := bnd hr; obtain ⟨res2, hL2, hr⟩ := hr
  refine AB.block ?_
  refine AB.loopN (fun m s h => ∃ (c_2 : Int) (x11 : Int), address_remainder_L2 N digits m c_2 x11 = some res2 ∧ Ghost 0 s h (mkF 39 [(0, (eI .u32 c_2)), (9, (.row none 1 (digits.map (eI .u8)))), (10, (eI .i64 (digits.length : Int))), (11, (eI .i64 x11))]) []) (n := N) ⟨c, 0, hL2, (Ghost.rn [] rfl rfl (FLe.same rfl (FLe.same rfl (FLe.same rfl (FLe.same rfl FLe.nil)))) HLe.nil rfl)⟩ (by rintro s h ⟨_, _, h0, _⟩; simp [address_remainder_L2] at h0) ?_
  rintro m2 s h ⟨c_2, x11, hr2, hg⟩
  refine AB.ghost hg ?_
  clear hg hL2
  rw [address_remainder_L2] at hr2
  refine AB.seq ?_
  refine AB.rw ?_
  refine wS (v := (eB (decide (x11 < (digits.length : Int))))) (sv (d_bin rfl rfl (bin_lss ..))) ?_
  refine OpsW.nil ?_
  refine Ex.then_mk ?_
  refine AB.seq ?_
  refine AB.cnd rfl (fun h1 => ?_) (fun h1 => ?_)
  · replace hr2 := iteT hr2 h1
    refine AB.skip ?_
    refine Ex.then_mk ?_
    refine AB.seq_g fun K3 hK3 hG3 => ?_
    have J3 : ∀ (c_3 : Int), address_remainder_J3 N digits x11 (address_remainder_L2 N digits m2) c_3 = some res2 → K3 (mkF 39 [(0, (eI .u32 c_3)), (9, (.row none 1 (digits.map (eI .u8)))), (10, (eI .i64 (digits.length : Int))), (11, (eI .i64 x11))]) [] := by
      intro c_3 hr2
      unfold address_remainder_J3 at hr2
      refine hK3 _ _ ?_
      refine AB.rw ?_
      refine wS (v := (eI .i64 (IntKind.i64.wrap (x11 + 1)))) (sv (d_bin rfl rfl (bin_add ..))) ?_
      refine wS (v := (eI .i64 (IntKind.i64.wrap (x11 + 1)))) (sv (d_move rfl)) ?_
      refine OpsW.nil ?_
      refine Ex.then_mk ?_
      exact ⟨c_3, IntKind.i64.wrap (x11 + 1), hr2, (Ghost.rn [] rfl rfl (FLe.same rfl (FLe.same rfl (FLe.same rfl (FLe.same rfl FLe.nil)))) HLe.nil rfl)⟩
    refine AB.block ?_
    refine AB.seq ?_
    replace hr2 := bnd hr2; obtain ⟨x13, h_2, hr2⟩ := hr2
    refine AB.rw ?_
    refine wS (sv (d_ia rfl rfl (iaR ti22 ti5 h_2))) ?_
    refine wS (v := (eI .u8 x13)) (sv (d_load rfl (ldR h_2 (part1 ti5 rfl rfl)))) ?_
    refine wS (v := (eI .u8 x13)) (sv (d_assign rfl)) ?_
    refine OpsW.nil ?_
    refine Ex.then_mk ?_
    refine AB.seq ?_
    replace hr2 := bnd hr2; obtain ⟨x16, h_3, hr2⟩ := hr2
    refine AB.rw ?_
    refine wS (v := (eI .u32 c_2)) (sv (d_move rfl)) ?_
    refine wS (v := (eI .u32 x16)) (sv (d_bin rfl rfl (bin_shr' _ _ _ _ h_3))) ?_
    refine wS (v := (eI .u32 x16)) (sv (d_assign rfl)) ?_
    refine OpsW.nil ?_
    refine Ex.then_mk ?_
    refine AB.seq ?_
    replace hr2 := bnd hr2; obtain ⟨x19, h_4, hr2⟩ := hr2
    refine AB.rw ?_
    refine wS (v := (eI .u32 c_2)) (sv (d_move rfl)) ?_
    refine wS (v := (eI .u32 (bits .and .u32 c_2 33554431))) (sv (d_bin rfl rfl (bin_and ..))) ?_
    refine wS (v := (eI .u32 x19)) (sv (d_bin rfl rfl (bin_shl' _ _ _ _ h_4))) ?_
    refine wS (v := (eI .u8 x13)) (sv (d_move rfl)) ?_
    refine wS (v := (eI .u32 (IntKind.u32.wrap x13))) (sv (d_conv rfl (conv_int _ ⟨_, ti5⟩ ti41 rfl))) ?_
    refine wS (v := (eI .u32 (bits .xor .u32 x19 (IntKind.u32.wrap x13)))) (sv (d_bin rfl rfl (bin_xor ..))) ?_
    refine wS (v := (eI .u32 (bits .xor .u32 x19 (IntKind.u32.wrap x13)))) (sv (d_assign rfl)) ?_
    refine OpsW.nil ?_
    refine Ex.then_mk ?_
    refine AB.seq ?_
    refine AB.rw ?_
    refine wS (v := (eI .i64 0)) (sv (d_move rfl)) ?_
    refine OpsW.nil ?_
    refine Ex.then_mk ?_
    replace hr2 := bnd hr2; obtain ⟨res4, hL4, hr2⟩ := hr2
    refine AB.block ?_
    refine AB.loopN (fun m s h => ∃ (c_4 : Int) (x23 : Int), address_remainder_L4 N digits x11 x16 m c_4 x23 = some res4 ∧ Ghost 0 s h (mkF 39 [(0, (eI .u32 c_4)), (7, (eI .u32 x16)), (9, (.row none 1 (digits.map (eI .u8)))), (10, (eI .i64 (digits.length : Int))), (11, (eI .i64 x11)), (23, (eI .i64 x23))]) []) (n := N) ⟨bits .xor .u32 x19 (IntKind.u32.wrap x13), 0, hL4, (Ghost.rn [] rfl rfl (FLe.same rfl (FLe.same rfl (FLe.same rfl (FLe.same rfl (FLe.same rfl (FLe.same rfl FLe.nil)))))) HLe.nil rfl)⟩ (by rintro s h ⟨_, _, h0, _⟩; simp [address_remainder_L4] at h0) ?_
    rintro m4 s h ⟨c_4, x23, hr4, hg⟩
    refine AB.ghost hg ?_
    clear hg hL4
    rw [address_remainder_L4] at hr4
    refine AB.seq ?_
    refine AB.rw ?_
    refine wS (v := (eB (decide (x23 < 5)))) (sv (d_bin rfl rfl (bin_lss ..))) ?_
    refine OpsW.nil ?_
    refine Ex.then_mk ?_
    refine AB.seq ?_
    refine AB.cnd rfl (fun h5 => ?_) (fun h5 => ?_)
    · replace hr4 := iteT hr4 h5
      refine AB.skip ?_
      refine Ex.then_mk ?_
      refine AB.seq_g fun K5 hK5 hG5 => ?_
      have J5 : ∀ (c_5 : Int), address_remainder_J5 N digits x11 x16 x23 (address_remainder_L4 N digits x11 x16 m4) c_5 = some res4 → K5 (mkF 39 [(0, (eI .u32 c_5)), (7, (eI .u32 x16)), (9, (.row none 1 (digits.map (eI .u8)))), (10, (eI .i64 (digits.length : Int))), (11, (eI .i64 x11)), (23, (eI .i64 x23))]) [] := by
        intro c_5 hr4
        unfold address_remainder_J5 at hr4
        refine hK5 _ _ ?_
        refine AB.rw ?_
        refine wS (v := (eI .i64 (IntKind.i64.wrap (x23 + 1)))) (sv (d_bin rfl rfl (bin_add ..))) ?_
        refine wS (v := (eI .i64 (IntKind.i64.wrap (x23 + 1)))) (sv (d_move rfl)) ?_
        refine OpsW.nil ?_
        refine Ex.then_mk ?_
        exact ⟨c_5, IntKind.i64.wrap (x23 + 1), hr4, (Ghost.rn [] rfl rfl (FLe.same rfl (FLe.same rfl (FLe.same rfl (FLe.same rfl (FLe.same rfl (FLe.same rfl FLe.nil)))))) HLe.nil rfl)⟩
      refine AB.block ?_
      refine AB.seq ?_
      refine AB.rw ?_
      refine wS (v := (eI .i64 x23)) (sv (d_move rfl)) ?_
      refine wS (v := (eI .i64 x23)) (sv (d_assign rfl)) ?_
      refine OpsW.nil ?_
      refine Ex.then_mk ?_
      refine AB.seq ?_
      replace hr4 := bnd hr4; obtain ⟨x28, h_6, hr4⟩ := hr4
      refine AB.rw ?_
      refine wS (v := (eI .u32 x16)) (sv (d_move rfl)) ?_
      refine wS (v := (eI .i64 x23)) (sv (d_move rfl)) ?_
      refine wS (v := (eI .u32 x28)) (sv (d_bin rfl rfl (bin_shr' _ _ _ _ h_6))) ?_
      refine wS (v := (eI .u32 (bits .and .u32 x28 1))) (sv (d_bin rfl rfl (bin_and ..))) ?_
      refine wS (v := (eB ((bits .and .u32 x28 1) == 1))) (sv (d_bin rfl rfl (bin_eql ..))) ?_
      refine OpsW.nil ?_
      refine Ex.then_mk ?_
      refine AB.cnd rfl (fun h7 => ?_) (fun h7 => ?_)
      · replace hr4 := iteT hr4 h7
        replace hr4 := bnd hr4; obtain ⟨x33, h_8, hr4⟩ := hr4
        refine AB.rw ?_
        refine wS (v := (eI .u32 c_4)) (sv (d_move rfl)) ?_
        refine wS (v := (eI .i64 x23)) (sv (d_move rfl)) ?_
        refine wS (v := (.eptr [(.agg (gens.map (eI .u32)))] 0 (Int.toNat x23))) (sv (d_ia rfl rfl (iaG ti51 ti41 rfl h_8))) ?_
        refine wS (v := (eI .u32 x33)) (sv (d_load rfl (ldG (E := (eI .u32)) (y := x33) ti41 rfl (aix_idx h_8)))) ?_
        refine wS (v := (eI .u32 (bits .xor .u32 c_4 x33))) (sv (d_bin rfl rfl (bin_xor ..))) ?_
        refine wS (v := (eI .u32 (bits .xor .u32 c_4 x33))) (sv (d_assign rfl)) ?_
        refine OpsW.nil ?_
        refine Ex.inBlock_mk ?_
        refine Ex.then_mk ?_
        exact hG5 _ _ _ _ (Ghost.rn [] rfl rfl (FLe.same rfl (FLe.same rfl (FLe.same rfl (FLe.same rfl (FLe.same rfl (FLe.same rfl FLe.nil)))))) HLe.nil rfl) (J5 (bits .xor .u32 c_4 x33) hr4)
      · replace hr4 := iteF hr4 h7
        refine AB.skip ?_
        refine Ex.inBlock_mk ?_
        refine Ex.then_mk ?_
        exact hG5 _ _ _ _ (Ghost.rn [] rfl rfl (FLe.same rfl (FLe.same rfl (FLe.same rfl (FLe.same rfl (FLe.same rfl (FLe.same rfl FLe.nil)))))) HLe.nil rfl) (J5 c_4 hr4)
    · replace hr4 := iteF hr4 h5
      refine AB.exit ?_
      refine Ex.then_exit_mk ?_
      refine Ex.then_exit_mk ?_
      refine Ex.inBlock_same_mk ?_
      obtain rfl := Option.some.inj hr4
      refine Ex.inBlock_mk ?_
      refine Ex.then_mk ?_
      exact hG3 _ _ _ _ (Ghost.rn [] rfl rfl (FLe.same rfl (FLe.same rfl (FLe.same rfl (FLe.same rfl FLe.nil)))) HLe.nil rfl) (J3 c_4 hr2)
  · replace hr2 := iteF hr2 h1
    refine AB.exit ?_
    refine Ex.then_exit_mk ?_
    refine Ex.then_exit_mk ?_
    refine Ex.inBlock_same_mk ?_
    obtain rfl := Option.some.inj hr2
    refine Ex.then_mk ?_
    exact hG1 _ _ _ _ (Ghost.rn [] rfl rfl (FLe.same rfl FLe.nil) HLe.nil rfl) (J1 c_2 hr)
set_option maxRecDepth 20000 in
set_option maxHeartbeats 1000000 in
theorem address_Checksum_ok (N : Nat) (vprefix : ByteArray) (d : List Int) (r : (List Int)) (hr : address_Checksum N vprefix d = some r) :
    Vm.Fn Tryd.prog 9 [] [(eS vprefix), (.row none 1 (d.map (eI .u8)))] (.agg (r.map (eI .u8))) [] := by
  refine fn_ab Tryd.func9 rfl (by kernel_rfl) Tryd.ntmps9 (Nat.le_of_ble_eq_true rfl) rfl (fr := [(0, (eS vprefix)), (1, (.row none 1 (d.map (eI .u8))))]) rfl ?_
  unfold address_Checksum at hr
  refine AB.seq ?_
  refine AB.rw ?_
  refine wS (v := (.ptr 0 0)) (h' := [some ⟨24, (List.replicate 6 0).map (eI .u8)⟩]) (sv (d_alloc ti24 rfl rfl rfl)) ?_
  refine OpsW.nil ?_
  refine Ex.then_mk ?_
  refine AB.seq ?_
  refine AB.rw ?_
  refine wS (v := (eI .u32 1)) (sv (d_assign rfl)) ?_
  refine OpsW.nil ?_
  refine Ex.then_mk ?_
  refine AB.seq_g fun K1 hK1 hG1 => ?_
  have J1 : ∀ (c : Int), address_Checksum_J1 N vprefix d c = some r → K1 (mkF 71 [(0, (eS vprefix)), (1, (.row none 1 (d.map (eI .u8)))), (4, (.ptr 0 0)), (5, (eI .u32 c))]) [some ⟨24, (List.replicate 6 0).map (eI .u8)⟩] := by
    intro c hr
    unfold address_Checksum_J1 at hr
    refine hK1 _ _ ?_
    refine AB.seq ?_
    replace hr := bnd hr; obtain ⟨x27, h_1, hr⟩ := hr
    refine AB.rw ?_
    refine wS (v := (eI .u32 c)) (sv (d_move rfl)) ?_
    refine wS (v := (.sl 1 0 1 1 false)) (h' := [some ⟨24, (List.replicate 6 0).map (eI .u8)⟩, some ⟨5, [0].map (eI .u8)⟩]) (sv (d_buildS rfl (bldL1 (xs := [0].map (eI .u8)) ti22 ti5 (Nat.le_of_ble_eq_true rfl) (Nat.le_of_ble_eq_true rfl) rfl rfl rfl rfl rfl rfl rfl))) ?_
    refine wC (v := (eI .u32 x27)) (h' := [some ⟨24, (List.replicate 6 0).map (eI .u8)⟩, some ⟨5, [0].map (eI .u8)⟩]) rfl (Vm.Fn.lendR (address_remainder_ok N c [0] x27 h_1) [] [1] (by decide) rfl (by decide) Lend.nil (Brw.same rfl (Brw.row (exp_slT rfl rfl (fun _ => rfl)) Brw.nil)) rfl rfB.nil rfl (by simp only [lent, lendSet, lendSet_nil, rnH, Blk.rn, V.rns, V.rn, sg, List.map_cons, List.map_nil, Option.map_some, Option.map_none, List.drop_succ_cons, List.drop_zero, List.drop_nil, List.set_cons_zero, List.set_cons_succ, List.cons_append, List.nil_append, List.append_nil, rns_eI, rns_eB, rns_eS, rns_eL, List.getElem?_cons_zero, List.getElem?_cons_succ, List.getElem?_nil, List.length_cons, List.length_nil, Nat.reduceAdd, Nat.reduceSub, Nat.add_zero, Nat.zero_add, Nat.sub_self, Nat.sub_zero])) ?_
    refine wS (v := (eI .u32 x27)) (sv (d_assign rfl)) ?_
    refine OpsW.nil ?_
    refine Ex.then_mk ?_
    refine AB.seq_g fun K2 hK2 hG2 => ?_
    have J2 : ∀ (c_1 : Int), address_Checksum_J2 N d c_1 = some r → K2 (mkF 71 [(1, (.row none 1 (d.map (eI .u8)))), (4, (.ptr 0 0)), (5, (eI .u32 c_1))]) [some ⟨24, (List.replicate 6 0).map (eI .u8)⟩] := by
      intro c_1 hr
      unfold address_Checksum_J2 at hr
      refine hK2 _ _ ?_
      refine AB.seq_g fun K3 hK3 hG3 => ?_
      have J3 : ∀ (c_2 : Int), address_Checksum_J3 N c_2 = some r → K3 (mkF 71 [(4, (.ptr 0 0)), (5, (eI .u32 c_2))]) [some ⟨24, (List.replicate 6 0).map (eI .u8)⟩] := by
        intro c_2 hr
        unfold address_Checksum_J3 at hr
        refine hK3 _ _ ?_
        refine AB.seq ?_
        replace hr := bnd hr; obtain ⟨x55, h_2, hr⟩ := hr
        refine AB.rw ?_
        refine wS (v := (eI .u32 c_2)) (sv (d_move rfl)) ?_
        refine wS (v := (.sl 1 0 6 1 false)) (h' := [some ⟨24, (List.replicate 6 0).map (eI .u8)⟩, some ⟨5, [0, 0, 0, 0, 0, 0].map (eI .u8)⟩]) (sv (d_buildS rfl (bldL1 (xs := [0, 0, 0, 0, 0, 0].map (eI .u8)) ti22 ti5 (Nat.le_of_ble_eq_true rfl) (Nat.le_of_ble_eq_true rfl) rfl rfl rfl rfl rfl rfl rfl))) ?_
        refine wC (v := (eI .u32 x55)) (h' := [some ⟨24, (List.replicate 6 0).map (eI .u8)⟩, some ⟨5, [0, 0, 0, 0, 0, 0].map (eI .u8)⟩]) rfl (Vm.Fn.lendR (address_remainder_ok N c_2 [0, 0, 0, 0, 0, 0] x55 h_2) [] [1] (by decide) rfl (by decide) Lend.nil (Brw.same rfl (Brw.row (exp_slT rfl rfl (fun _ => rfl)) Brw.nil)) rfl rfB.nil rfl (by simp only [lent, lendSet, lendSet_nil, rnH, Blk.rn, V.rns, V.rn, sg, List.map_cons, List.map_nil, Option.map_some, Option.map_none, List.drop_succ_cons, List.drop_zero, List.drop_nil, List.set_cons_zero, List.set_cons_succ, List.cons_append, List.nil_append, List.append_nil, rns_eI, rns_eB, rns_eS, rns_eL, List.getElem?_cons_zero, List.getElem?_cons_succ, List.getElem?_nil, List.length_cons, List.length_nil, Nat.reduceAdd, Nat.reduceSub, Nat.add_zero, Nat.zero_add, Nat.sub_self, Nat.sub_zero])) ?_
        refine wS (v := (eI .u32 (bits .xor .u32 x55 1))) (sv (d_bin rfl rfl (bin_xor ..))) ?_
        refine wS (v := (eI .u32 (bits .xor .u32 x55 1))) (sv (d_assign rfl)) ?_
        refine OpsW.nil ?_
        refine Ex.then_mk ?_
        refine AB.seq ?_
        refine AB.rw ?_
        refine wS (v := (.ptr 2 0)) (h' := [some ⟨24, (List.replicate 6 0).map (eI .u8)⟩, some ⟨5, [0, 0, 0, 0, 0, 0].map (eI .u8)⟩, some ⟨24, (List.replicate 6 0).map (eI .u8)⟩]) (sv (d_alloc ti24 rfl rfl rfl)) ?_
        refine OpsW.nil ?_
        refine Ex.then_mk ?_
        refine AB.seq_g fun K4 hK4 hG4 => ?_
        have J4 : ∀ (l1 : List Int), address_Checksum_J4 N l1 = some r → K4 (mkF 71 [(4, (.ptr 0 0)), (10, (.ptr 1 0))]) [some ⟨24, (List.replicate 6 0).map (eI .u8)⟩, some ⟨24, l1.map (eI .u8)⟩] := by
          intro l1 hr
          unfold address_Checksum_J4 at hr
          refine hK4 _ _ ?_
          refine AB.seq ?_
          replace hr := bnd hr; obtain ⟨q, h_3, hr⟩ := hr
          refine AB.rw ?_
          refine wS (v := (.agg (l1.map (eI .u8)))) (sv (d_load rfl (ldA (E := (eI .u8)) (l := l1) ti24 rfl rfl (arr_len h_3)))) ?_
          refine wN (h' := [some ⟨24, l1.map (eI .u8)⟩, some ⟨24, l1.map (eI .u8)⟩]) (sv (d_store rfl rfl (stA (E := (eI .u8)) (l := List.replicate 6 0) ti24 rfl rfl (fun _ => rfl) rfl (arr_len h_3) rfl))) ?_
          refine OpsW.nil ?_
          refine Ex.then_mk ?_
          refine AB.ret ?_
          obtain rfl := Option.some.inj hr
          exact done_ret (r1 := (.agg (l1.map (eI .u8)))) (res1 Tryd.results9 (rvC rfl (ldA (E := (eI .u8)) (l := l1) ti24 rfl rfl (arr_len h_3)))) (Ghost.rn [] rfl rfl (FLe.le rfl (V.le_arr (fun _ => rfl)) FLe.nil) HLe.nil rfl)
        refine AB.seq ?_
        refine AB.rw ?_
        refine wS (v := (eI .i64 0)) (sv (d_move rfl)) ?_
        refine OpsW.nil ?_
        refine Ex.then_mk ?_
        replace hr := bnd hr; obtain ⟨res5, hL5, hr⟩ := hr
        refine AB.block ?_
        refine AB.loopN (fun m s h => ∃ (x57 : Int) (l1_1 : List Int), address_Checksum_L5 N x55 m x57 l1_1 = some res5 ∧ Ghost 0 s h (mkF 71 [(4, (.ptr 0 0)), (5, (eI .u32 (bits .xor .u32 x55 1))), (10, (.ptr 1 0)), (57, (eI .i64 x57))]) [some ⟨24, (List.replicate 6 0).map (eI .u8)⟩, some ⟨24, l1_1.map (eI .u8)⟩]) (n := N) ⟨0, List.replicate 6 0, hL5, (Ghost.rn [0, 2] rfl rfl (FLe.same rfl (FLe.same rfl (FLe.same rfl (FLe.same rfl FLe.nil)))) (HLe.live rfl (les_map (fun _ => rfl) _) (all_map (fun _ => rfl) _) (HLe.live rfl (les_map (fun _ => rfl) _) (all_map (fun _ => rfl) _) HLe.nil)) rfl)⟩ (by rintro s h ⟨_, _, h0, _⟩; simp [address_Checksum_L5] at h0) ?_
        rintro m5 s h ⟨x57, l1_1, hr5, hg⟩
        refine AB.ghost hg ?_
        clear hg hL5
        rw [address_Checksum_L5] at hr5
        refine AB.seq ?_
        refine AB.rw ?_
        refine wS (v := (eB (decide (x57 < 6)))) (sv (d_bin rfl rfl (bin_lss ..))) ?_
        refine OpsW.nil ?_
        refine Ex.then_mk ?_
        refine AB.seq ?_
        refine AB.cnd rfl (fun h4 => ?_) (fun h4 => ?_)
        · replace hr5 := iteT hr5 h4
          refine AB.skip ?_
          refine Ex.then_mk ?_
          refine AB.seq ?_
          refine AB.block ?_
          refine AB.seq ?_
          refine AB.rw ?_
          refine wS (v := (eI .i64 x57)) (sv (d_move rfl)) ?_
          refine wS (v := (eI .i64 x57)) (sv (d_assign rfl)) ?_
          refine OpsW.nil ?_
          refine Ex.then_mk ?_
          replace hr5 := bnd hr5; obtain ⟨x65, h_5, hr5⟩ := hr5
          replace hr5 := bnd hr5; obtain ⟨x68, h_6, hr5⟩ := hr5
          refine AB.rw ?_
          refine wS (v := (eI .i64 x57)) (sv (d_move rfl)) ?_
          refine wS (v := (eI .u32 (bits .xor .u32 x55 1))) (sv (d_move rfl)) ?_
          refine wS (v := (eI .i64 x57)) (sv (d_move rfl)) ?_
          refine wS (v := (eI .i64 (IntKind.i64.wrap (5 - x57)))) (sv (d_bin rfl rfl (bin_sub ..))) ?_
          refine wS (v := (eI .i64 (IntKind.i64.wrap (5 * (IntKind.i64.wrap (5 - x57)))))) (sv (d_bin rfl rfl (bin_mul ..))) ?_
          refine wS (v := (eI .u32 x65)) (sv (d_bin rfl rfl (bin_shr' _ _ _ _ h_5))) ?_
          refine wS (v := (eI .u8 (IntKind.u8.wrap x65))) (sv (d_conv rfl (conv_int _ ⟨_, ti41⟩ ti5 rfl))) ?_
          refine wS (v := (eI .u8 (bits .and .u8 (IntKind.u8.wrap x65) 31))) (sv (d_bin rfl rfl (bin_and ..))) ?_
          refine wS (v := (.ptr 1 (Int.toNat x57))) (sv (d_ia rfl rfl (iaB ti24 ti5 rfl h_6))) ?_
          refine wN (h' := [some ⟨24, (List.replicate 6 0).map (eI .u8)⟩, some ⟨24, (l1_1.set (Int.toNat x57) (bits .and .u8 (IntKind.u8.wrap x65) 31)).map (eI .u8)⟩]) (sv (d_store rfl rfl (stXe (E := (eI .u8)) (y := bits .and .u8 (IntKind.u8.wrap x65) 31) ti5 rfl rfl (aix_idx h_6) rfl rfl rfl))) ?_
          refine OpsW.nil ?_
          refine Ex.inBlock_mk ?_
          refine Ex.then_mk ?_
          refine AB.rw ?_
          refine wS (v := (eI .i64 (IntKind.i64.wrap (x57 + 1)))) (sv (d_bin rfl rfl (bin_add ..))) ?_
          refine wS (v := (eI .i64 (IntKind.i64.wrap (x57 + 1)))) (sv (d_move rfl)) ?_
          refine OpsW.nil ?_
          refine Ex.then_mk ?_
          exact ⟨IntKind.i64.wrap (x57 + 1), l1_1.set (Int.toNat x57) (bits .and .u8 (IntKind.u8.wrap x65) 31), hr5, (Ghost.rn [0, 1] rfl rfl (FLe.same rfl (FLe.same rfl (FLe.same rfl (FLe.same rfl FLe.nil)))) (HLe.live rfl (les_map (fun _ => rfl) _) (all_map (fun _ => rfl) _) (HLe.live rfl (les_map (fun _ => rfl) _) (all_map (fun _ => rfl) _) HLe.nil)) rfl)⟩
        · replace hr5 := iteF hr5 h4
          refine AB.exit ?_
          refine Ex.then_exit_mk ?_
          refine Ex.then_exit_mk ?_
          refine Ex.inBlock_same_mk ?_
          obtain rfl := Option.some.inj hr5
          refine Ex.then_mk ?_
          exact hG4 _ _ _ _ (Ghost.rn [0, 1] rfl rfl (FLe.same rfl (FLe.same rfl FLe.nil)) (HLe.live rfl (les_map (fun _ => rfl) _) (all_map (fun _ => rfl) _) (HLe.live rfl (les_map (fun _ => rfl) _) (all_map (fun _ => rfl) _) HLe.nil)) rfl) (J4 l1_1 hr)
      refine AB.seq ?_
      refine AB.rw ?_
      refine wS (v := (.row none 1 (d.map (eI .u8)))) (sv (d_move rfl)) ?_
      refine wS (v := (eI .i64 (d.length : Int))) (sv (d_len rfl (lenR ti22))) ?_
      refine wS (v := (eI .i64 0)) (sv (d_move rfl)) ?_
      refine OpsW.nil ?_
      refine Ex.then_mk ?_
      replace hr := bnd hr; obtain ⟨res6, hL6, hr⟩ := hr
      refine AB.block ?_
      refine AB.loopN (fun m s h => ∃ (c_3 : Int) (x43 : Int), address_Checksum_L6 N d m c_3 x43 = some res6 ∧ Ghost 0 s h (mkF 71 [(4, (.ptr 0 0)), (5, (eI .u32 c_3)), (41, (.row none 1 (d.map (eI .u8)))), (42, (eI .i64 (d.length : Int))), (43, (eI .i64 x43))]) [some ⟨24, (List.replicate 6 0).map (eI .u8)⟩]) (n := N) ⟨c_1, 0, hL6, (Ghost.rn [0] rfl rfl (FLe.same rfl (FLe.same rfl (FLe.same rfl (FLe.same rfl (FLe.same rfl FLe.nil))))) (HLe.live rfl (les_map (fun _ => rfl) _) (all_map (fun _ => rfl) _) HLe.nil) rfl)⟩ (by rintro s h ⟨_, _, h0, _⟩; simp [address_Checksum_L6] at h0) ?_
      rintro m6 s h ⟨c_3, x43, hr6, hg⟩
      refine AB.ghost hg ?_
      clear hg hL6
      rw [address_Checksum_L6] at hr6
      refine AB.seq ?_
      refine AB.rw ?_
      refine wS (v := (eB (decide (x43 < (d.length : Int))))) (sv (d_bin rfl rfl (bin_lss ..))) ?_
      refine OpsW.nil ?_
      refine Ex.then_mk ?_
      refine AB.seq ?_
      refine AB.cnd rfl (fun h7 => ?_) (fun h7 => ?_)
      · replace hr6 := iteT hr6 h7
        refine AB.skip ?_
        refine Ex.then_mk ?_
        refine AB.seq ?_
        refine AB.block ?_
        refine AB.seq ?_
        replace hr6 := bnd hr6; obtain ⟨x45, h_8, hr6⟩ := hr6
        refine AB.rw ?_
        refine wS (sv (d_ia rfl rfl (iaR ti22 ti5 h_8))) ?_
        refine wS (v := (eI .u8 x45)) (sv (d_load rfl (ldR h_8 (part1 ti5 rfl rfl)))) ?_
        refine wS (v := (eI .u8 x45)) (sv (d_assign rfl)) ?_
        refine OpsW.nil ?_
        refine Ex.then_mk ?_
        replace hr6 := bnd hr6; obtain ⟨x51, h_9, hr6⟩ := hr6
        refine AB.rw ?_
        refine wS (v := (eI .u32 c_3)) (sv (d_move rfl)) ?_
        refine wS (v := (eI .u8 x45)) (sv (d_move rfl)) ?_
        refine wS (v := (eI .u8 (Int.tmod x45 32))) (sv (d_bin rfl rfl (bin_rem' _ _ _ _ rfl))) ?_
        refine wS (v := (.sl 1 0 1 1 false)) (h' := [some ⟨24, (List.replicate 6 0).map (eI .u8)⟩, some ⟨5, [Int.tmod x45 32].map (eI .u8)⟩]) (sv (d_buildS rfl (bldL1 (xs := [Int.tmod x45 32].map (eI .u8)) ti22 ti5 (Nat.le_of_ble_eq_true rfl) (Nat.le_of_ble_eq_true rfl) rfl rfl rfl rfl rfl rfl rfl))) ?_
        refine wC (v := (eI .u32 x51)) (h' := [some ⟨24, (List.replicate 6 0).map (eI .u8)⟩, some ⟨5, [Int.tmod x45 32].map (eI .u8)⟩]) rfl (Vm.Fn.lendR (address_remainder_ok N c_3 [Int.tmod x45 32] x51 h_9) [] [1] (by decide) rfl (by decide) Lend.nil (Brw.same rfl (Brw.row (exp_slT rfl rfl (fun _ => rfl)) Brw.nil)) rfl rfB.nil rfl (by simp only [lent, lendSet, lendSet_nil, rnH, Blk.rn, V.rns, V.rn, sg, List.map_cons, List.map_nil, Option.map_some, Option.map_none, List.drop_succ_cons, List.drop_zero, List.drop_nil, List.set_cons_zero, List.set_cons_succ, List.cons_append, List.nil_append, List.append_nil, rns_eI, rns_eB, rns_eS, rns_eL, List.getElem?_cons_zero, List.getElem?_cons_succ, List.getElem?_nil, List.length_cons, List.length_nil, Nat.reduceAdd, Nat.reduceSub, Nat.add_zero, Nat.zero_add, Nat.sub_self, Nat.sub_zero])) ?_
        refine wS (v := (eI .u32 x51)) (sv (d_assign rfl)) ?_
        refine OpsW.nil ?_
        refine Ex.inBlock_mk ?_
        refine Ex.then_mk ?_
        refine AB.rw ?_
        refine wS (v := (eI .i64 (IntKind.i64.wrap (x43 + 1)))) (sv (d_bin rfl rfl (bin_add ..))) ?_
        refine wS (v := (eI .i64 (IntKind.i64.wrap (x43 + 1)))) (sv (d_move rfl)) ?_
        refine OpsW.nil ?_
        refine Ex.then_mk ?_
        exact ⟨x51, IntKind.i64.wrap (x43 + 1), hr6, (Ghost.rn [0] rfl rfl (FLe.same rfl (FLe.same rfl (FLe.same rfl (FLe.same rfl (FLe.same rfl FLe.nil))))) (HLe.live rfl (les_map (fun _ => rfl) _) (all_map (fun _ => rfl) _) HLe.nil) rfl)⟩
      · replace hr6 := iteF hr6 h7
        refine AB.exit ?_
        refine Ex.then_exit_mk ?_
        refine Ex.then_exit_mk ?_
        refine Ex.inBlock_same_mk ?_
        obtain rfl := Option.some.inj hr6
        refine Ex.then_mk ?_
        exact hG3 _ _ _ _ (Ghost.rn [0] rfl rfl (FLe.same rfl (FLe.same rfl FLe.nil)) (HLe.live rfl (les_map (fun _ => rfl) _) (all_map (fun _ => rfl) _) HLe.nil) rfl) (J3 c_3 hr)
    refine AB.seq ?_
    refine AB.rw ?_
    refine wS (v := (eS vprefix)) (sv (d_move rfl)) ?_
    refine wS (v := (eI .i64 (vprefix.size : Int))) (sv (d_len rfl (lenT ti9))) ?_
    refine wS (v := (eI .i64 0)) (sv (d_move rfl)) ?_
    refine OpsW.nil ?_
    refine Ex.then_mk ?_
    replace hr := bnd hr; obtain ⟨res7, hL7, hr⟩ := hr
    refine AB.block ?_
    refine AB.loopN (fun m s h => ∃ (c_4 : Int) (x30 : Int), address_Checksum_L7 N vprefix d m c_4 x30 = some res7 ∧ Ghost 0 s h (mkF 71 [(0, (eS vprefix)), (1, (.row none 1 (d.map (eI .u8)))), (4, (.ptr 0 0)), (5, (eI .u32 c_4)), (29, (eI .i64 (vprefix.size : Int))), (30, (eI .i64 x30))]) [some ⟨24, (List.replicate 6 0).map (eI .u8)⟩]) (n := N) ⟨x27, 0, hL7, (Ghost.rn [0] rfl rfl (FLe.same rfl (FLe.same rfl (FLe.same rfl (FLe.same rfl (FLe.same rfl (FLe.same rfl FLe.nil)))))) (HLe.live rfl (les_map (fun _ => rfl) _) (all_map (fun _ => rfl) _) HLe.nil) rfl)⟩ (by rintro s h ⟨_, _, h0, _⟩; simp [address_Checksum_L7] at h0) ?_
    rintro m7 s h ⟨c_4, x30, hr7, hg⟩
    refine AB.ghost hg ?_
    clear hg hL7
    rw [address_Checksum_L7] at hr7
    refine AB.seq ?_
    refine AB.rw ?_
    refine wS (v := (eB (decide (x30 < (vprefix.size : Int))))) (sv (d_bin rfl rfl (bin_lss ..))) ?_
    refine OpsW.nil ?_
    refine Ex.then_mk ?_
    refine AB.seq ?_
    refine AB.cnd rfl (fun h10 => ?_) (fun h10 => ?_)
    · replace hr7 := iteT hr7 h10
      refine AB.skip ?_
      refine Ex.then_mk ?_
      refine AB.seq ?_
      refine AB.block ?_
      refine AB.seq ?_
      refine AB.rw ?_
      refine wS (v := (eI .i64 x30)) (sv (d_move rfl)) ?_
      refine wS (v := (eI .i64 x30)) (sv (d_assign rfl)) ?_
      refine OpsW.nil ?_
      refine Ex.then_mk ?_
      replace hr7 := bnd hr7; obtain ⟨x36, h_11, hr7⟩ := hr7
      replace hr7 := bnd hr7; obtain ⟨x39, h_12, hr7⟩ := hr7
      refine AB.rw ?_
      refine wS (v := (eI .u32 c_4)) (sv (d_move rfl)) ?_
      refine wS (v := (eS vprefix)) (sv (d_move rfl)) ?_
      refine wS (v := (eI .i64 x30)) (sv (d_move rfl)) ?_
      refine wS (v := (eI .u8 x36)) (sv (d_ix rfl rfl (ixT ti9 h_11))) ?_
      refine wS (v := (eI .u8 (bits .and .u8 x36 31))) (sv (d_bin rfl rfl (bin_and ..))) ?_
      refine wS (v := (.sl 1 0 1 1 false)) (h' := [some ⟨24, (List.replicate 6 0).map (eI .u8)⟩, some ⟨5, [bits .and .u8 x36 31].map (eI .u8)⟩]) (sv (d_buildS rfl (bldL1 (xs := [bits .and .u8 x36 31].map (eI .u8)) ti22 ti5 (Nat.le_of_ble_eq_true rfl) (Nat.le_of_ble_eq_true rfl) rfl rfl rfl rfl rfl rfl rfl))) ?_
      refine wC (v := (eI .u32 x39)) (h' := [some ⟨24, (List.replicate 6 0).map (eI .u8)⟩, some ⟨5, [bits .and .u8 x36 31].map (eI .u8)⟩]) rfl (Vm.Fn.lendR (address_remainder_ok N c_4 [bits .and .u8 x36 31] x39 h_12) [] [1] (by decide) rfl (by decide) Lend.nil (Brw.same rfl (Brw.row (exp_slT rfl rfl (fun _ => rfl)) Brw.nil)) rfl rfB.nil rfl (by simp only [lent, lendSet, lendSet_nil, rnH, Blk.rn, V.rns, V.rn, sg, List.map_cons, List.map_nil, Option.map_some, Option.map_none, List.drop_succ_cons, List.drop_zero, List.drop_nil, List.set_cons_zero, List.set_cons_succ, List.cons_append, List.nil_append, List.append_nil, rns_eI, rns_eB, rns_eS, rns_eL, List.getElem?_cons_zero, List.getElem?_cons_succ, List.getElem?_nil, List.length_cons, List.length_nil, Nat.reduceAdd, Nat.reduceSub, Nat.add_zero, Nat.zero_add, Nat.sub_self, Nat.sub_zero])) ?_
      refine wS (v := (eI .u32 x39)) (sv (d_assign rfl)) ?_
      refine OpsW.nil ?_
      refine Ex.inBlock_mk ?_
      refine Ex.then_mk ?_
      refine AB.rw ?_
      refine wS (v := (eI .i64 (IntKind.i64.wrap (x30 + 1)))) (sv (d_bin rfl rfl (bin_add ..))) ?_
      refine wS (v := (eI .i64 (IntKind.i64.wrap (x30 + 1)))) (sv (d_move rfl)) ?_
      refine OpsW.nil ?_
      refine Ex.then_mk ?_
      exact ⟨x39, IntKind.i64.wrap (x30 + 1), hr7, (Ghost.rn [0] rfl rfl (FLe.same rfl (FLe.same rfl (FLe.same rfl (FLe.same rfl (FLe.same rfl (FLe.same rfl FLe.nil)))))) (HLe.live rfl (les_map (fun _ => rfl) _) (all_map (fun _ => rfl) _) HLe.nil) rfl)⟩
    · replace hr7 := iteF hr7 h10
      refine AB.exit ?_
      refine Ex.then_exit_mk ?_
      refine Ex.then_exit_mk ?_
      refine Ex.inBlock_same_mk ?_
      obtain rfl := Option.some.inj hr7
      refine Ex.then_mk ?_
      exact hG2 _ _ _ _ (Ghost.rn [0] rfl rfl (FLe.same rfl (FLe.same rfl (FLe.same rfl FLe.nil))) (HLe.live rfl (les_map (fun _ => rfl) _) (all_map (fun _ => rfl) _) HLe.nil) rfl) (J2 c_4 hr)
  refine AB.seq ?_
  refine AB.rw ?_
  refine wS (v := (eS vprefix)) (sv (d_move rfl)) ?_
  refine wS (v := (eI .i64 (vprefix.size : Int))) (sv (d_len rfl (lenT ti9))) ?_
  refine wS (v := (eI .i64 0)) (sv (d_move rfl)) ?_
  refine OpsW.nil ?_
  refine Ex.then_mk ?_
  replace hr := bnd hr; obtain ⟨res8, hL8, hr⟩ := hr
  refine AB.block ?_
  refine AB.loopN (fun m s h => ∃ (c_5 : Int) (x14 : Int), address_Checksum_L8 N vprefix d m c_5 x14 = some res8 ∧ Ghost 0 s h (mkF 71 [(0, (eS vprefix)), (1, (.row none 1 (d.map (eI .u8)))), (4, (.ptr 0 0)), (5, (eI .u32 c_5)), (13, (eI .i64 (vprefix.size : Int))), (14, (eI .i64 x14))]) [some ⟨24, (List.replicate 6 0).map (eI .u8)⟩]) (n := N) ⟨1, 0, hL8, (Ghost.rn [0] rfl rfl (FLe.same rfl (FLe.same rfl (FLe.same rfl (FLe.same rfl (FLe.same rfl (FLe.same rfl FLe.nil)))))) (HLe.live rfl (les_map (fun _ => rfl) _) (all_map (fun _ => rfl) _) HLe.nil) rfl)⟩ (by rintro s h ⟨_, _, h0, _⟩; simp [address_Checksum_L8] at h0) ?_
  rintro m8 s h ⟨c_5, x14, hr8, hg⟩
  refine AB.ghost hg ?_
  clear hg hL8
  rw [address_Checksum_L8] at hr8
  refine AB.seq ?_
  refine AB.rw ?_
  refine wS (v := (eB (decide (x14 < (vprefix.size : Int))))) (sv (d_bin rfl rfl (bin_lss ..))) ?_
  refine OpsW.nil ?_
  refine Ex.then_mk ?_
  refine AB.seq ?_
  refine AB.cnd rfl (fun h13 => ?_) (fun h13 => ?_)
  · replace hr8 := iteT hr8 h13
    refine AB.skip ?_
    refine Ex.then_mk ?_
    refine AB.seq ?_
    refine AB.block ?_
    refine AB.seq ?_
    refine AB.rw ?_
    refine wS (v := (eI .i64 x14)) (sv (d_move rfl)) ?_
    refine wS (v := (eI .i64 x14)) (sv (d_assign rfl)) ?_
    refine OpsW.nil ?_
    refine Ex.then_mk ?_
    replace hr8 := bnd hr8; obtain ⟨x20, h_14, hr8⟩ := hr8
    replace hr8 := bnd hr8; obtain ⟨x21, h_15, hr8⟩ := hr8
    replace hr8 := bnd hr8; obtain ⟨x23, h_16, hr8⟩ := hr8
    refine AB.rw ?_
    refine wS (v := (eI .u32 c_5)) (sv (d_move rfl)) ?_
    refine wS (v := (eS vprefix)) (sv (d_move rfl)) ?_
    refine wS (v := (eI .i64 x14)) (sv (d_move rfl)) ?_
    refine wS (v := (eI .u8 x20)) (sv (d_ix rfl rfl (ixT ti9 h_14))) ?_
    refine wS (v := (eI .u8 x21)) (sv (d_bin rfl rfl (bin_shr' _ _ _ _ h_15))) ?_
    refine wS (v := (.sl 1 0 1 1 false)) (h' := [some ⟨24, (List.replicate 6 0).map (eI .u8)⟩, some ⟨5, [x21].map (eI .u8)⟩]) (sv (d_buildS rfl (bldL1 (xs := [x21].map (eI .u8)) ti22 ti5 (Nat.le_of_ble_eq_true rfl) (Nat.le_of_ble_eq_true rfl) rfl rfl rfl rfl rfl rfl rfl))) ?_
    refine wC (v := (eI .u32 x23)) (h' := [some ⟨24, (List.replicate 6 0).map (eI .u8)⟩, some ⟨5, [x21].map (eI .u8)⟩]) rfl (Vm.Fn.lendR (address_remainder_ok N c_5 [x21] x23 h_16) [] [1] (by decide) rfl (by decide) Lend.nil (Brw.same rfl (Brw.row (exp_slT rfl rfl (fun _ => rfl)) Brw.nil)) rfl rfB.nil rfl (by simp only [lent, lendSet, lendSet_nil, rnH, Blk.rn, V.rns, V.rn, sg, List.map_cons, List.map_nil, Option.map_some, Option.map_none, List.drop_succ_cons, List.drop_zero, List.drop_nil, List.set_cons_zero, List.set_cons_succ, List.cons_append, List.nil_append, List.append_nil, rns_eI, rns_eB, rns_eS, rns_eL, List.getElem?_cons_zero, List.getElem?_cons_succ, List.getElem?_nil, List.length_cons, List.length_nil, Nat.reduceAdd, Nat.reduceSub, Nat.add_zero, Nat.zero_add, Nat.sub_self, Nat.sub_zero])) ?_
    refine wS (v := (eI .u32 x23)) (sv (d_assign rfl)) ?_
    refine OpsW.nil ?_
    refine Ex.inBlock_mk ?_
    refine Ex.then_mk ?_
    refine AB.rw ?_
    refine wS (v := (eI .i64 (IntKind.i64.wrap (x14 + 1)))) (sv (d_bin rfl rfl (bin_add ..))) ?_
    refine wS (v := (eI .i64 (IntKind.i64.wrap (x14 + 1)))) (sv (d_move rfl)) ?_
    refine OpsW.nil ?_
    refine Ex.then_mk ?_
    exact ⟨x23, IntKind.i64.wrap (x14 + 1), hr8, (Ghost.rn [0] rfl rfl (FLe.same rfl (FLe.same rfl (FLe.same rfl (FLe.same rfl (FLe.same rfl (FLe.same rfl FLe.nil)))))) (HLe.live rfl (les_map (fun _ => rfl) _) (all_map (fun _ => rfl) _) HLe.nil) rfl)⟩
  · replace hr8 := iteF hr8 h13
    refine AB.exit ?_
    refine Ex.then_exit_mk ?_
    refine Ex.then_exit_mk ?_
    refine Ex.inBlock_same_mk ?_
    obtain rfl := Option.some.inj hr8
    refine Ex.then_mk ?_
    exact hG1 _ _ _ _ (Ghost.rn [0] rfl rfl (FLe.same rfl (FLe.same rfl (FLe.same rfl (FLe.same rfl FLe.nil)))) (HLe.live rfl (les_map (fun _ => rfl) _) (all_map (fun _ => rfl) _) HLe.nil) rfl) (J1 c_5 hr)
set_option maxRecDepth 20000 in
set_option maxHeartbeats 1000000 in
theorem ref27_remainder_ok (N : Nat) (d : List Int) (r : Int) (hr : ref27_remainder N d = some r) :
    Vm.Fn Tryd.prog 21 [] [(.row none 1 (d.map (eI .u8)))] (eI .u32 r) [] := by
  refine fn_ab Tryd.func21 rfl (by kernel_rfl) Tryd.ntmps21 (Nat.le_of_ble_eq_true rfl) rfl (fr := [(0, (.row none 1 (d.map (eI .u8))))]) rfl ?_
  unfold ref27_remainder at hr
  refine AB.seq ?_
  refine AB.rw ?_
  refine wS (v := (eI .u32 0)) (sv (d_assign rfl)) ?_
  refine OpsW.nil ?_
  refine Ex.then_mk ?_
  refine AB.seq ?_
  refine AB.rw ?_
  refine wS (v := (.agg ([996825010, 642813549, 513874426, 1027748829, 705979059].map (eI .u32)))) (sv (d_build rfl (bldA ti51 ti41 rfl))) ?_
  refine wS (v := (.ptr 0 0)) (h' := [some ⟨51, (List.replicate 5 0).map (eI .u32)⟩]) (sv (d_alloc ti51 rfl rfl rfl)) ?_
  refine wN (h' := [some ⟨51, [996825010, 642813549, 513874426, 1027748829, 705979059].map (eI .u32)⟩]) (sv (d_store rfl rfl (stA (E := (eI .u32)) (l := List.replicate 5 0) ti51 rfl rfl (fun _ => rfl) rfl rfl rfl))) ?_
  refine OpsW.nil ?_
  refine Ex.then_mk ?_
  refine AB.seq ?_
  refine AB.rw ?_
  refine wS (v := (eI .u32 1)) (sv (d_assign rfl)) ?_
  refine OpsW.nil ?_
  refine Ex.then_mk ?_
  refine AB.seq_g fun K1 hK1 hG1 => ?_
  have J1 : ∀ (c : Int), ref27_remainder_J1 N c = some r → K1 (mkF 42 [(4, (eI .u32 c))]) [] := by
    intro c hr
    unfold ref27_remainder_J1 at hr
    refine hK1 _ _ ?_
    refine AB.seq ?_
    refine AB.rw ?_
    refine wS (v := (eI .u32 c)) (sv (d_move rfl)) ?_
    refine wS (v := (eI .u32 c)) (sv (d_assign rfl)) ?_
    refine OpsW.nil ?_
    refine Ex.then_mk ?_
    refine AB.ret ?_
    obtain rfl := Option.some.inj hr
    exact done_ret (r1 := (eI .u32 c)) (res1 Tryd.results21 (rvT rfl)) (Ghost.rn [] rfl rfl (FLe.same rfl FLe.nil) HLe.nil rfl)
  refine AB.seq ?_
  refine AB.rw ?_
  refine wS (v := (eI .i64 0)) (sv (d_assign rfl)) ?_
  refine OpsW.nil ?_
  refine Ex.then_mk ?_
  replace hr := bnd hr; obtain ⟨res2, hL2, hr⟩ := hr
  refine AB.block ?_
  refine AB.loopN (fun m s h => ∃ (c_1 : Int) (vi : Int), ref27_remainder_L2 N d m c_1 vi = some res2 ∧ Ghost 0 s h (mkF 42 [(0, (.row none 1 (d.map (eI .u8)))), (3, (.ptr 0 0)), (4, (eI .u32 c_1)), (5, (eI .i64 vi))]) [some ⟨51, [996825010, 642813549, 513874426, 1027748829, 705979059].map (eI .u32)⟩]) (n := N) ⟨1, 0, hL2, (Ghost.rn [0] rfl rfl (FLe.same rfl (FLe.same rfl (FLe.same rfl (FLe.same rfl FLe.nil)))) (HLe.live rfl (les_map (fun _ => rfl) _) (all_map (fun _ => rfl) _) HLe.nil) rfl)⟩ (by rintro s h ⟨_, _, h0, _⟩; simp [ref27_remainder_L2] at h0) ?_
  rintro m2 s h ⟨c_1, vi, hr2, hg⟩
  refine AB.ghost hg ?_
  clear hg hL2
  rw [ref27_remainder_L2] at hr2
  refine AB.seq ?_
  refine AB.seq ?_
  refine AB.rw ?_
  refine wS (v := (eI .i64 vi)) (sv (d_move rfl)) ?_
  refine wS (v := (.row none 1 (d.map (eI .u8)))) (sv (d_move rfl)) ?_
  refine wS (v := (eI .i64 (d.length : Int))) (sv (d_len rfl (lenR ti22))) ?_
  refine wS (v := (eB (decide (vi < (d.length : Int))))) (sv (d_bin rfl rfl (bin_lss ..))) ?_
  refine OpsW.nil ?_
  refine Ex.then_mk ?_
  refine AB.cnd rfl (fun h1 => ?_) (fun h1 => ?_)
  · replace hr2 := iteT hr2 h1
    refine AB.skip ?_
    refine Ex.then_mk ?_
    refine AB.seq_g fun K3 hK3 hG3 => ?_
    have J3 : ∀ (c_2 : Int), ref27_remainder_J3 N d vi (ref27_remainder_L2 N d m2) c_2 = some res2 → K3 (mkF 42 [(0, (.row none 1 (d.map (eI .u8)))), (3, (.ptr 0 0)), (4, (eI .u32 c_2)), (5, (eI .i64 vi))]) [some ⟨51, [996825010, 642813549, 513874426, 1027748829, 705979059].map (eI .u32)⟩] := by
      intro c_2 hr2
      unfold ref27_remainder_J3 at hr2
      refine hK3 _ _ ?_
      refine AB.rw ?_
      refine wS (v := (eI .i64 vi)) (sv (d_move rfl)) ?_
      refine wS (v := (eI .i64 (IntKind.i64.wrap (vi + 1)))) (sv (d_bin rfl rfl (bin_add ..))) ?_
      refine wS (v := (eI .i64 (IntKind.i64.wrap (vi + 1)))) (sv (d_assign rfl)) ?_
      refine OpsW.nil ?_
      refine Ex.then_mk ?_
      exact ⟨c_2, IntKind.i64.wrap (vi + 1), hr2, (Ghost.rn [0] rfl rfl (FLe.same rfl (FLe.same rfl (FLe.same rfl (FLe.same rfl FLe.nil)))) (HLe.live rfl (les_map (fun _ => rfl) _) (all_map (fun _ => rfl) _) HLe.nil) rfl)⟩
    refine AB.block ?_
    refine AB.seq ?_
    replace hr2 := bnd hr2; obtain ⟨x16, h_2, hr2⟩ := hr2
    refine AB.rw ?_
    refine wS (v := (eI .u32 c_1)) (sv (d_move rfl)) ?_
    refine wS (v := (eI .u32 x16)) (sv (d_bin rfl rfl (bin_shr' _ _ _ _ h_2))) ?_
    refine wS (v := (eI .u32 x16)) (sv (d_assign rfl)) ?_
    refine OpsW.nil ?_
    refine Ex.then_mk ?_
    refine AB.seq ?_
    replace hr2 := bnd hr2; obtain ⟨x19, h_3, hr2⟩ := hr2
    replace hr2 := bnd hr2; obtain ⟨x22, h_4, hr2⟩ := hr2
    refine AB.rw ?_
    refine wS (v := (eI .u32 c_1)) (sv (d_move rfl)) ?_
    refine wS (v := (eI .u32 (bits .and .u32 c_1 33554431))) (sv (d_bin rfl rfl (bin_and ..))) ?_
    refine wS (v := (eI .u32 x19)) (sv (d_bin rfl rfl (bin_shl' _ _ _ _ h_3))) ?_
    refine wS (v := (.row none 1 (d.map (eI .u8)))) (sv (d_move rfl)) ?_
    refine wS (v := (eI .i64 vi)) (sv (d_move rfl)) ?_
    refine wS (sv (d_ia rfl rfl (iaR ti22 ti5 h_4))) ?_
    refine wS (v := (eI .u8 x22)) (sv (d_load rfl (ldR h_4 (part1 ti5 rfl rfl)))) ?_
    refine wS (v := (eI .u32 (IntKind.u32.wrap x22))) (sv (d_conv rfl (conv_int _ ⟨_, ti5⟩ ti41 rfl))) ?_
    refine wS (v := (eI .u32 (bits .xor .u32 x19 (IntKind.u32.wrap x22)))) (sv (d_bin rfl rfl (bin_xor ..))) ?_
    refine wS (v := (eI .u32 (bits .xor .u32 x19 (IntKind.u32.wrap x22)))) (sv (d_assign rfl)) ?_
    refine OpsW.nil ?_
    refine Ex.then_mk ?_
    refine AB.seq ?_
    refine AB.rw ?_
    refine wS (v := (eI .i64 0)) (sv (d_assign rfl)) ?_
    refine OpsW.nil ?_
    refine Ex.then_mk ?_
    replace hr2 := bnd hr2; obtain ⟨res4, hL4, hr2⟩ := hr2
    refine AB.block ?_
    refine AB.loopN (fun m s h => ∃ (c_3 : Int) (k : Int), ref27_remainder_L4 N d vi x16 m c_3 k = some res4 ∧ Ghost 0 s h (mkF 42 [(0, (.row none 1 (d.map (eI .u8)))), (3, (.ptr 0 0)), (4, (eI .u32 c_3)), (5, (eI .i64 vi)), (6, (eI .u32 x16)), (7, (eI .i64 k))]) [some ⟨51, [996825010, 642813549, 513874426, 1027748829, 705979059].map (eI .u32)⟩]) (n := N) ⟨bits .xor .u32 x19 (IntKind.u32.wrap x22), 0, hL4, (Ghost.rn [0] rfl rfl (FLe.same rfl (FLe.same rfl (FLe.same rfl (FLe.same rfl (FLe.same rfl (FLe.same rfl FLe.nil)))))) (HLe.live rfl (les_map (fun _ => rfl) _) (all_map (fun _ => rfl) _) HLe.nil) rfl)⟩ (by rintro s h ⟨_, _, h0, _⟩; simp [ref27_remainder_L4] at h0) ?_
    rintro m4 s h ⟨c_3, k, hr4, hg⟩
    refine AB.ghost hg ?_
    clear hg hL4
    rw [ref27_remainder_L4] at hr4
    refine AB.seq ?_
    refine AB.seq ?_
    refine AB.rw ?_
    refine wS (v := (eI .i64 k)) (sv (d_move rfl)) ?_
    refine wS (v := (eB (decide (k < 5)))) (sv (d_bin rfl rfl (bin_lss ..))) ?_
    refine OpsW.nil ?_
    refine Ex.then_mk ?_
    refine AB.cnd rfl (fun h5 => ?_) (fun h5 => ?_)
    · replace hr4 := iteT hr4 h5
      refine AB.skip ?_
      refine Ex.then_mk ?_
      refine AB.seq_g fun K5 hK5 hG5 => ?_
      have J5 : ∀ (c_4 : Int), ref27_remainder_J5 N d vi x16 k (ref27_remainder_L4 N d vi x16 m4) c_4 = some res4 → K5 (mkF 42 [(0, (.row none 1 (d.map (eI .u8)))), (3, (.ptr 0 0)), (4, (eI .u32 c_4)), (5, (eI .i64 vi)), (6, (eI .u32 x16)), (7, (eI .i64 k))]) [some ⟨51, [996825010, 642813549, 513874426, 1027748829, 705979059].map (eI .u32)⟩] := by
        intro c_4 hr4
        unfold ref27_remainder_J5 at hr4
        refine hK5 _ _ ?_
        refine AB.rw ?_
        refine wS (v := (eI .i64 k)) (sv (d_move rfl)) ?_
        refine wS (v := (eI .i64 (IntKind.i64.wrap (k + 1)))) (sv (d_bin rfl rfl (bin_add ..))) ?_
        refine wS (v := (eI .i64 (IntKind.i64.wrap (k + 1)))) (sv (d_assign rfl)) ?_
        refine OpsW.nil ?_
        refine Ex.then_mk ?_
        exact ⟨c_4, IntKind.i64.wrap (k + 1), hr4, (Ghost.rn [0] rfl rfl (FLe.same rfl (FLe.same rfl (FLe.same rfl (FLe.same rfl (FLe.same rfl (FLe.same rfl FLe.nil)))))) (HLe.live rfl (les_map (fun _ => rfl) _) (all_map (fun _ => rfl) _) HLe.nil) rfl)⟩
      refine AB.block ?_
      refine AB.seq ?_
      replace hr4 := bnd hr4; obtain ⟨x33, h_6, hr4⟩ := hr4
      refine AB.rw ?_
      refine wS (v := (eI .u32 x16)) (sv (d_move rfl)) ?_
      refine wS (v := (eI .i64 k)) (sv (d_move rfl)) ?_
      refine wS (v := (eI .u64 (IntKind.u64.wrap k))) (sv (d_conv rfl (conv_int _ ⟨_, ti3⟩ ti43 rfl))) ?_
      refine wS (v := (eI .u32 x33)) (sv (d_bin rfl rfl (bin_shr' _ _ _ _ h_6))) ?_
      refine wS (v := (eI .u32 (bits .and .u32 x33 1))) (sv (d_bin rfl rfl (bin_and ..))) ?_
      refine wS (v := (eB ((bits .and .u32 x33 1) == 1))) (sv (d_bin rfl rfl (bin_eql ..))) ?_
      refine OpsW.nil ?_
      refine Ex.then_mk ?_
      refine AB.cnd rfl (fun h7 => ?_) (fun h7 => ?_)
      · replace hr4 := iteT hr4 h7
        replace hr4 := bnd hr4; obtain ⟨x38, h_8, hr4⟩ := hr4
        refine AB.rw ?_
        refine wS (v := (eI .u32 c_3)) (sv (d_move rfl)) ?_
        refine wS (v := (eI .i64 k)) (sv (d_move rfl)) ?_
        refine wS (v := (.ptr 0 (Int.toNat k))) (sv (d_ia rfl rfl (iaB ti51 ti41 rfl h_8))) ?_
        refine wS (v := (eI .u32 x38)) (sv (d_load rfl (ldX (E := (eI .u32)) (y := x38) ti41 rfl rfl (aix_idx h_8)))) ?_
        refine wS (v := (eI .u32 (bits .xor .u32 c_3 x38))) (sv (d_bin rfl rfl (bin_xor ..))) ?_
        refine wS (v := (eI .u32 (bits .xor .u32 c_3 x38))) (sv (d_assign rfl)) ?_
        refine OpsW.nil ?_
        refine Ex.inBlock_mk ?_
        refine Ex.then_mk ?_
        exact hG5 _ _ _ _ (Ghost.rn [0] rfl rfl (FLe.same rfl (FLe.same rfl (FLe.same rfl (FLe.same rfl (FLe.same rfl (FLe.same rfl FLe.nil)))))) (HLe.live rfl (les_map (fun _ => rfl) _) (all_map (fun _ => rfl) _) HLe.nil) rfl) (J5 (bits .xor .u32 c_3 x38) hr4)
      · replace hr4 := iteF hr4 h7
        refine AB.skip ?_
        refine Ex.inBlock_mk ?_
        refine Ex.then_mk ?_
        exact hG5 _ _ _ _ (Ghost.rn [0] rfl rfl (FLe.same rfl (FLe.same rfl (FLe.same rfl (FLe.same rfl (FLe.same rfl (FLe.same rfl FLe.nil)))))) (HLe.live rfl (les_map (fun _ => rfl) _) (all_map (fun _ => rfl) _) HLe.nil) rfl) (J5 c_3 hr4)
    · replace hr4 := iteF hr4 h5
      refine AB.exit ?_
      refine Ex.then_exit_mk ?_
      refine Ex.then_exit_mk ?_
      refine Ex.inBlock_same_mk ?_
      obtain rfl := Option.some.inj hr4
      refine Ex.inBlock_mk ?_
      refine Ex.then_mk ?_
      exact hG3 _ _ _ _ (Ghost.rn [0] rfl rfl (FLe.same rfl (FLe.same rfl (FLe.same rfl (FLe.same rfl FLe.nil)))) (HLe.live rfl (les_map (fun _ => rfl) _) (all_map (fun _ => rfl) _) HLe.nil) rfl) (J3 c_3 hr2)
  · replace hr2 := iteF hr2 h1
    refine AB.exit ?_
    refine Ex.then_exit_mk ?_
    refine Ex.then_exit_mk ?_
    refine Ex.inBlock_same_mk ?_
    obtain rfl := Option.some.inj hr2
    refine Ex.then_mk ?_
    exact hG1 _ _ _ _ (Ghost.rn [] rfl rfl (FLe.same rfl FLe.nil) HLe.nil rfl) (J1 c_1 hr)
set_option maxRecDepth 20000 in
set_option maxHeartbeats 1000000 in
theorem ref27_Checksum_ok (N : Nat) (vprefix : ByteArray) (d : List Int) (r : (List Int)) (hr : ref27_Checksum N vprefix d = some r) :
    Vm.Fn Tryd.prog 10 [] [(eS vprefix), (.row none 1 (d.map (eI .u8)))] (.agg (r.map (eI .u8))) [] := by
  refine fn_ab Tryd.func10 rfl (by kernel_rfl) Tryd.ntmps10 (Nat.le_of_ble_eq_true rfl) rfl (fr := [(0, (eS vprefix)), (1, (.row none 1 (d.map (eI .u8))))]) rfl ?_
  unfold ref27_Checksum at hr
  refine AB.seq ?_
  refine AB.rw ?_
  refine wS (v := (.ptr 0 0)) (h' := [some ⟨24, (List.replicate 6 0).map (eI .u8)⟩]) (sv (d_alloc ti24 rfl rfl rfl)) ?_
  refine OpsW.nil ?_
  refine Ex.then_mk ?_
  refine AB.seq ?_
  refine AB.rw ?_
  refine wS (v := (.row (some true) 1 [])) (sv (d_assign rfl)) ?_
  refine OpsW.nil ?_
  refine Ex.then_mk ?_
  refine AB.seq_g fun K1 hK1 hG1 => ?_
  have J1 : ∀ (l1 : List Int), ref27_Checksum_J1 N vprefix d l1 = some r → K1 (mkF 75 [(0, (eS vprefix)), (1, (.row none 1 (d.map (eI .u8)))), (4, (.ptr 0 0)), (5, (.sl 1 0 l1.length 1 false))]) [some ⟨24, (List.replicate 6 0).map (eI .u8)⟩, some ⟨5, l1.map (eI .u8)⟩] := by
    intro l1 hr
    unfold ref27_Checksum_J1 at hr
    refine hK1 _ _ ?_
    refine AB.seq ?_
    replace hr := bnd hr; obtain ⟨x27, h_1, hr⟩ := hr
    refine AB.rw ?_
    refine wS (v := (.sl 1 0 l1.length 1 false)) (sv (d_move rfl)) ?_
    refine wS (v := (.sl 2 0 1 1 false)) (h' := [some ⟨24, (List.replicate 6 0).map (eI .u8)⟩, some ⟨5, l1.map (eI .u8)⟩, some ⟨5, [0].map (eI .u8)⟩]) (sv (d_buildS rfl (bldL1 (xs := [0].map (eI .u8)) ti22 ti5 (Nat.le_of_ble_eq_true rfl) (Nat.le_of_ble_eq_true rfl) rfl rfl rfl rfl rfl rfl rfl))) ?_
    refine wS (v := (.sl 3 0 x27.length 1 false)) (h' := [some ⟨24, (List.replicate 6 0).map (eI .u8)⟩, none, some ⟨5, [0].map (eI .u8)⟩, some ⟨5, x27.map (eI .u8)⟩]) (sv (d_append rfl rfl (appS (E := (eI .u8)) rfl ti22 ti5 ⟨rfl, rfl, Nat.le_of_ble_eq_true rfl⟩ rfl (srcS rfl rfl) h_1 rfl rfl))) ?_
    refine wS (v := (.sl 3 0 x27.length 1 false)) (sv (d_assign rfl)) ?_
    refine OpsW.nil ?_
    refine Ex.then_mk ?_
    refine AB.seq_g fun K2 hK2 hG2 => ?_
    have J2 : ∀ (l1_1 : List Int), ref27_Checksum_J2 N d l1_1 = some r → K2 (mkF 75 [(1, (.row none 1 (d.map (eI .u8)))), (4, (.ptr 0 0)), (5, (.sl 1 0 l1_1.length 1 false))]) [some ⟨24, (List.replicate 6 0).map (eI .u8)⟩, some ⟨5, l1_1.map (eI .u8)⟩] := by
      intro l1_1 hr
      unfold ref27_Checksum_J2 at hr
      refine hK2 _ _ ?_
      refine AB.seq_g fun K3 hK3 hG3 => ?_
      have J3 : ∀ (l1_2 : List Int), ref27_Checksum_J3 N l1_2 = some r → K3 (mkF 75 [(4, (.ptr 0 0)), (5, (.sl 1 0 l1_2.length 1 false))]) [some ⟨24, (List.replicate 6 0).map (eI .u8)⟩, some ⟨5, l1_2.map (eI .u8)⟩] := by
        intro l1_2 hr
        unfold ref27_Checksum_J3 at hr
        refine hK3 _ _ ?_
        refine AB.seq ?_
        replace hr := bnd hr; obtain ⟨x57, h_2, hr⟩ := hr
        replace hr := bnd hr; obtain ⟨x58, h_3, hr⟩ := hr
        refine AB.rw ?_
        refine wS (v := (.sl 1 0 l1_2.length 1 false)) (sv (d_move rfl)) ?_
        refine wS (v := (.sl 2 0 6 1 false)) (h' := [some ⟨24, (List.replicate 6 0).map (eI .u8)⟩, some ⟨5, l1_2.map (eI .u8)⟩, some ⟨5, [0, 0, 0, 0, 0, 0].map (eI .u8)⟩]) (sv (d_buildS rfl (bldL1 (xs := [0, 0, 0, 0, 0, 0].map (eI .u8)) ti22 ti5 (Nat.le_of_ble_eq_true rfl) (Nat.le_of_ble_eq_true rfl) rfl rfl rfl rfl rfl rfl rfl))) ?_
        refine wS (v := (.sl 3 0 x57.length 1 false)) (h' := [some ⟨24, (List.replicate 6 0).map (eI .u8)⟩, none, some ⟨5, [0, 0, 0, 0, 0, 0].map (eI .u8)⟩, some ⟨5, x57.map (eI .u8)⟩]) (sv (d_append rfl rfl (appS (E := (eI .u8)) rfl ti22 ti5 ⟨rfl, rfl, Nat.le_of_ble_eq_true rfl⟩ rfl (srcS rfl rfl) h_2 rfl rfl))) ?_
        refine wC (v := (eI .u32 x58)) (h' := [some ⟨24, (List.replicate 6 0).map (eI .u8)⟩, none, some ⟨5, [0, 0, 0, 0, 0, 0].map (eI .u8)⟩, some ⟨5, x57.map (eI .u8)⟩]) rfl (Vm.Fn.lendR (ref27_remainder_ok N x57 x58 h_3) [] [3] (by decide) rfl (by decide) Lend.nil (Brw.row (exp_slT rfl rfl (fun _ => rfl)) Brw.nil) rfl rfB.nil rfl (by simp only [lent, lendSet, lendSet_nil, rnH, Blk.rn, V.rns, V.rn, sg, List.map_cons, List.map_nil, Option.map_some, Option.map_none, List.drop_succ_cons, List.drop_zero, List.drop_nil, List.set_cons_zero, List.set_cons_succ, List.cons_append, List.nil_append, List.append_nil, rns_eI, rns_eB, rns_eS, rns_eL, List.getElem?_cons_zero, List.getElem?_cons_succ, List.getElem?_nil, List.length_cons, List.length_nil, Nat.reduceAdd, Nat.reduceSub, Nat.add_zero, Nat.zero_add, Nat.sub_self, Nat.sub_zero])) ?_
        refine wS (v := (eI .u32 (bits .xor .u32 x58 1))) (sv (d_bin rfl rfl (bin_xor ..))) ?_
        refine wS (v := (eI .u32 (bits .xor .u32 x58 1))) (sv (d_assign rfl)) ?_
        refine OpsW.nil ?_
        refine Ex.then_mk ?_
        refine AB.seq ?_
        refine AB.rw ?_
        refine wS (v := (.ptr 4 0)) (h' := [some ⟨24, (List.replicate 6 0).map (eI .u8)⟩, none, some ⟨5, [0, 0, 0, 0, 0, 0].map (eI .u8)⟩, some ⟨5, x57.map (eI .u8)⟩, some ⟨24, (List.replicate 6 0).map (eI .u8)⟩]) (sv (d_alloc ti24 rfl rfl rfl)) ?_
        refine OpsW.nil ?_
        refine Ex.then_mk ?_
        refine AB.seq_g fun K4 hK4 hG4 => ?_
        have J4 : ∀ (l1_3 : List Int), ref27_Checksum_J4 N l1_3 = some r → K4 (mkF 75 [(4, (.ptr 0 0)), (10, (.ptr 1 0))]) [some ⟨24, (List.replicate 6 0).map (eI .u8)⟩, some ⟨24, l1_3.map (eI .u8)⟩] := by
          intro l1_3 hr
          unfold ref27_Checksum_J4 at hr
          refine hK4 _ _ ?_
          refine AB.seq ?_
          replace hr := bnd hr; obtain ⟨q, h_4, hr⟩ := hr
          refine AB.rw ?_
          refine wS (v := (.agg (l1_3.map (eI .u8)))) (sv (d_load rfl (ldA (E := (eI .u8)) (l := l1_3) ti24 rfl rfl (arr_len h_4)))) ?_
          refine wN (h' := [some ⟨24, l1_3.map (eI .u8)⟩, some ⟨24, l1_3.map (eI .u8)⟩]) (sv (d_store rfl rfl (stA (E := (eI .u8)) (l := List.replicate 6 0) ti24 rfl rfl (fun _ => rfl) rfl (arr_len h_4) rfl))) ?_
          refine OpsW.nil ?_
          refine Ex.then_mk ?_
          refine AB.ret ?_
          obtain rfl := Option.some.inj hr
          exact done_ret (r1 := (.agg (l1_3.map (eI .u8)))) (res1 Tryd.results10 (rvC rfl (ldA (E := (eI .u8)) (l := l1_3) ti24 rfl rfl (arr_len h_4)))) (Ghost.rn [] rfl rfl (FLe.le rfl (V.le_arr (fun _ => rfl)) FLe.nil) HLe.nil rfl)
        refine AB.seq ?_
        refine AB.rw ?_
        refine wS (v := (eI .i64 0)) (sv (d_assign rfl)) ?_
        refine OpsW.nil ?_
        refine Ex.then_mk ?_
        replace hr := bnd hr; obtain ⟨res5, hL5, hr⟩ := hr
        refine AB.block ?_
        refine AB.loopN (fun m s h => ∃ (vi : Int) (l1_4 : List Int), ref27_Checksum_L5 N x58 m vi l1_4 = some res5 ∧ Ghost 0 s h (mkF 75 [(4, (.ptr 0 0)), (9, (eI .u32 (bits .xor .u32 x58 1))), (10, (.ptr 1 0)), (11, (eI .i64 vi))]) [some ⟨24, (List.replicate 6 0).map (eI .u8)⟩, some ⟨24, l1_4.map (eI .u8)⟩]) (n := N) ⟨0, List.replicate 6 0, hL5, (Ghost.rn [0, 4] rfl rfl (FLe.same rfl (FLe.same rfl (FLe.same rfl (FLe.same rfl FLe.nil)))) (HLe.live rfl (les_map (fun _ => rfl) _) (all_map (fun _ => rfl) _) (HLe.live rfl (les_map (fun _ => rfl) _) (all_map (fun _ => rfl) _) HLe.nil)) rfl)⟩ (by rintro s h ⟨_, _, h0, _⟩; simp [ref27_Checksum_L5] at h0) ?_
        rintro m5 s h ⟨vi, l1_4, hr5, hg⟩
        refine AB.ghost hg ?_
        clear hg hL5
        rw [ref27_Checksum_L5] at hr5
        refine AB.seq ?_
        refine AB.seq ?_
        refine AB.rw ?_
        refine wS (v := (eI .i64 vi)) (sv (d_move rfl)) ?_
        refine wS (v := (eB (decide (vi < 6)))) (sv (d_bin rfl rfl (bin_lss ..))) ?_
        refine OpsW.nil ?_
        refine Ex.then_mk ?_
        refine AB.cnd rfl (fun h5 => ?_) (fun h5 => ?_)
        · replace hr5 := iteT hr5 h5
          refine AB.skip ?_
          refine Ex.then_mk ?_
          refine AB.seq ?_
          refine AB.block ?_
          replace hr5 := bnd hr5; obtain ⟨x70, h_6, hr5⟩ := hr5
          replace hr5 := bnd hr5; obtain ⟨x73, h_7, hr5⟩ := hr5
          refine AB.rw ?_
          refine wS (v := (eI .i64 vi)) (sv (d_move rfl)) ?_
          refine wS (v := (eI .u32 (bits .xor .u32 x58 1))) (sv (d_move rfl)) ?_
          refine wS (v := (eI .i64 vi)) (sv (d_move rfl)) ?_
          refine wS (v := (eI .i64 (IntKind.i64.wrap (5 * vi)))) (sv (d_bin rfl rfl (bin_mul ..))) ?_
          refine wS (v := (eI .i64 (IntKind.i64.wrap (25 - (IntKind.i64.wrap (5 * vi)))))) (sv (d_bin rfl rfl (bin_sub ..))) ?_
          refine wS (v := (eI .u64 (IntKind.u64.wrap (IntKind.i64.wrap (25 - (IntKind.i64.wrap (5 * vi))))))) (sv (d_conv rfl (conv_int _ ⟨_, ti3⟩ ti43 rfl))) ?_
          refine wS (v := (eI .u32 x70)) (sv (d_bin rfl rfl (bin_shr' _ _ _ _ h_6))) ?_
          refine wS (v := (eI .u32 (bits .and .u32 x70 31))) (sv (d_bin rfl rfl (bin_and ..))) ?_
          refine wS (v := (eI .u8 (IntKind.u8.wrap (bits .and .u32 x70 31)))) (sv (d_conv rfl (conv_int _ ⟨_, ti41⟩ ti5 rfl))) ?_
          refine wS (v := (.ptr 1 (Int.toNat vi))) (sv (d_ia rfl rfl (iaB ti24 ti5 rfl h_7))) ?_
          refine wN (h' := [some ⟨24, (List.replicate 6 0).map (eI .u8)⟩, some ⟨24, (l1_4.set (Int.toNat vi) (IntKind.u8.wrap (bits .and .u32 x70 31))).map (eI .u8)⟩]) (sv (d_store rfl rfl (stXe (E := (eI .u8)) (y := IntKind.u8.wrap (bits .and .u32 x70 31)) ti5 rfl rfl (aix_idx h_7) rfl rfl rfl))) ?_
          refine OpsW.nil ?_
          refine Ex.inBlock_mk ?_
          refine Ex.then_mk ?_
          refine AB.rw ?_
          refine wS (v := (eI .i64 vi)) (sv (d_move rfl)) ?_
          refine wS (v := (eI .i64 (IntKind.i64.wrap (vi + 1)))) (sv (d_bin rfl rfl (bin_add ..))) ?_
          refine wS (v := (eI .i64 (IntKind.i64.wrap (vi + 1)))) (sv (d_assign rfl)) ?_
          refine OpsW.nil ?_
          refine Ex.then_mk ?_
          exact ⟨IntKind.i64.wrap (vi + 1), l1_4.set (Int.toNat vi) (IntKind.u8.wrap (bits .and .u32 x70 31)), hr5, (Ghost.rn [0, 1] rfl rfl (FLe.same rfl (FLe.same rfl (FLe.same rfl (FLe.same rfl FLe.nil)))) (HLe.live rfl (les_map (fun _ => rfl) _) (all_map (fun _ => rfl) _) (HLe.live rfl (les_map (fun _ => rfl) _) (all_map (fun _ => rfl) _) HLe.nil)) rfl)⟩
        · replace hr5 := iteF hr5 h5
          refine AB.exit ?_
          refine Ex.then_exit_mk ?_
          refine Ex.then_exit_mk ?_
          refine Ex.inBlock_same_mk ?_
          obtain rfl := Option.some.inj hr5
          refine Ex.then_mk ?_
          exact hG4 _ _ _ _ (Ghost.rn [0, 1] rfl rfl (FLe.same rfl (FLe.same rfl FLe.nil)) (HLe.live rfl (les_map (fun _ => rfl) _) (all_map (fun _ => rfl) _) (HLe.live rfl (les_map (fun _ => rfl) _) (all_map (fun _ => rfl) _) HLe.nil)) rfl) (J4 l1_4 hr)
      refine AB.seq ?_
      refine AB.rw ?_
      refine wS (v := (eI .i64 0)) (sv (d_assign rfl)) ?_
      refine OpsW.nil ?_
      refine Ex.then_mk ?_
      replace hr := bnd hr; obtain ⟨res6, hL6, hr⟩ := hr
      refine AB.block ?_
      refine AB.loopN (fun m s h => ∃ (vi_1 : Int) (l1_5 : List Int), ref27_Checksum_L6 N d m vi_1 l1_5 = some res6 ∧ Ghost 0 s h (mkF 75 [(1, (.row none 1 (d.map (eI .u8)))), (4, (.ptr 0 0)), (5, (.sl 1 0 l1_5.length 1 false)), (8, (eI .i64 vi_1))]) [some ⟨24, (List.replicate 6 0).map (eI .u8)⟩, some ⟨5, l1_5.map (eI .u8)⟩]) (n := N) ⟨0, l1_1, hL6, (Ghost.rn [0, 1] rfl rfl (FLe.same rfl (FLe.same rfl (FLe.same rfl (FLe.same rfl FLe.nil)))) (HLe.live rfl (les_map (fun _ => rfl) _) (all_map (fun _ => rfl) _) (HLe.live rfl (les_map (fun _ => rfl) _) (all_map (fun _ => rfl) _) HLe.nil)) rfl)⟩ (by rintro s h ⟨_, _, h0, _⟩; simp [ref27_Checksum_L6] at h0) ?_
      rintro m6 s h ⟨vi_1, l1_5, hr6, hg⟩
      refine AB.ghost hg ?_
      clear hg hL6
      rw [ref27_Checksum_L6] at hr6
      refine AB.seq ?_
      refine AB.seq ?_
      refine AB.rw ?_
      refine wS (v := (eI .i64 vi_1)) (sv (d_move rfl)) ?_
      refine wS (v := (.row none 1 (d.map (eI .u8)))) (sv (d_move rfl)) ?_
      refine wS (v := (eI .i64 (d.length : Int))) (sv (d_len rfl (lenR ti22))) ?_
      refine wS (v := (eB (decide (vi_1 < (d.length : Int))))) (sv (d_bin rfl rfl (bin_lss ..))) ?_
      refine OpsW.nil ?_
      refine Ex.then_mk ?_
      refine AB.cnd rfl (fun h8 => ?_) (fun h8 => ?_)
      · replace hr6 := iteT hr6 h8
        refine AB.skip ?_
        refine Ex.then_mk ?_
        refine AB.seq ?_
        refine AB.block ?_
        replace hr6 := bnd hr6; obtain ⟨x50, h_9, hr6⟩ := hr6
        replace hr6 := bnd hr6; obtain ⟨x54, h_10, hr6⟩ := hr6
        refine AB.rw ?_
        refine wS (v := (.sl 1 0 l1_5.length 1 false)) (sv (d_move rfl)) ?_
        refine wS (v := (.row none 1 (d.map (eI .u8)))) (sv (d_move rfl)) ?_
        refine wS (v := (eI .i64 vi_1)) (sv (d_move rfl)) ?_
        refine wS (sv (d_ia rfl rfl (iaR ti22 ti5 h_9))) ?_
        refine wS (v := (eI .u8 x50)) (sv (d_load rfl (ldR h_9 (part1 ti5 rfl rfl)))) ?_
        refine wS (v := (eI .u8 (bits .and .u8 x50 31))) (sv (d_bin rfl rfl (bin_and ..))) ?_
        refine wS (v := (.sl 2 0 1 1 false)) (h' := [some ⟨24, (List.replicate 6 0).map (eI .u8)⟩, some ⟨5, l1_5.map (eI .u8)⟩, some ⟨5, [bits .and .u8 x50 31].map (eI .u8)⟩]) (sv (d_buildS rfl (bldL1 (xs := [bits .and .u8 x50 31].map (eI .u8)) ti22 ti5 (Nat.le_of_ble_eq_true rfl) (Nat.le_of_ble_eq_true rfl) rfl rfl rfl rfl rfl rfl rfl))) ?_
        refine wS (v := (.sl 3 0 x54.length 1 false)) (h' := [some ⟨24, (List.replicate 6 0).map (eI .u8)⟩, none, some ⟨5, [bits .and .u8 x50 31].map (eI .u8)⟩, some ⟨5, x54.map (eI .u8)⟩]) (sv (d_append rfl rfl (appS (E := (eI .u8)) rfl ti22 ti5 ⟨rfl, rfl, Nat.le_of_ble_eq_true rfl⟩ rfl (srcS rfl rfl) h_10 rfl rfl))) ?_
        refine wS (v := (.sl 3 0 x54.length 1 false)) (sv (d_assign rfl)) ?_
        refine OpsW.nil ?_
        refine Ex.inBlock_mk ?_
        refine Ex.then_mk ?_
        refine AB.rw ?_
        refine wS (v := (eI .i64 vi_1)) (sv (d_move rfl)) ?_
        refine wS (v := (eI .i64 (IntKind.i64.wrap (vi_1 + 1)))) (sv (d_bin rfl rfl (bin_add ..))) ?_
        refine wS (v := (eI .i64 (IntKind.i64.wrap (vi_1 + 1)))) (sv (d_assign rfl)) ?_
        refine OpsW.nil ?_
        refine Ex.then_mk ?_
        exact ⟨IntKind.i64.wrap (vi_1 + 1), x54, hr6, (Ghost.rn [0, 3] rfl rfl (FLe.same rfl (FLe.same rfl (FLe.same rfl (FLe.same rfl FLe.nil)))) (HLe.live rfl (les_map (fun _ => rfl) _) (all_map (fun _ => rfl) _) (HLe.live rfl (les_map (fun _ => rfl) _) (all_map (fun _ => rfl) _) HLe.nil)) rfl)⟩
      · replace hr6 := iteF hr6 h8
        refine AB.exit ?_
        refine Ex.then_exit_mk ?_
        refine Ex.then_exit_mk ?_
        refine Ex.inBlock_same_mk ?_
        obtain rfl := Option.some.inj hr6
        refine Ex.then_mk ?_
        exact hG3 _ _ _ _ (Ghost.rn [0, 1] rfl rfl (FLe.same rfl (FLe.same rfl FLe.nil)) (HLe.live rfl (les_map (fun _ => rfl) _) (all_map (fun _ => rfl) _) (HLe.live rfl (les_map (fun _ => rfl) _) (all_map (fun _ => rfl) _) HLe.nil)) rfl) (J3 l1_5 hr)
    refine AB.seq ?_
    refine AB.rw ?_
    refine wS (v := (eI .i64 0)) (sv (d_assign rfl)) ?_
    refine OpsW.nil ?_
    refine Ex.then_mk ?_
    replace hr := bnd hr; obtain ⟨res7, hL7, hr⟩ := hr
    refine AB.block ?_
    refine AB.loopN (fun m s h => ∃ (vi_2 : Int) (l1_6 : List Int), ref27_Checksum_L7 N vprefix d m vi_2 l1_6 = some res7 ∧ Ghost 0 s h (mkF 75 [(0, (eS vprefix)), (1, (.row none 1 (d.map (eI .u8)))), (4, (.ptr 0 0)), (5, (.sl 1 0 l1_6.length 1 false)), (7, (eI .i64 vi_2))]) [some ⟨24, (List.replicate 6 0).map (eI .u8)⟩, some ⟨5, l1_6.map (eI .u8)⟩]) (n := N) ⟨0, x27, hL7, (Ghost.rn [0, 3] rfl rfl (FLe.same rfl (FLe.same rfl (FLe.same rfl (FLe.same rfl (FLe.same rfl FLe.nil))))) (HLe.live rfl (les_map (fun _ => rfl) _) (all_map (fun _ => rfl) _) (HLe.live rfl (les_map (fun _ => rfl) _) (all_map (fun _ => rfl) _) HLe.nil)) rfl)⟩ (by rintro s h ⟨_, _, h0, _⟩; simp [ref27_Checksum_L7] at h0) ?_
    rintro m7 s h ⟨vi_2, l1_6, hr7, hg⟩
    refine AB.ghost hg ?_
    clear hg hL7
    rw [ref27_Checksum_L7] at hr7
    refine AB.seq ?_
    refine AB.seq ?_
    refine AB.rw ?_
    refine wS (v := (eI .i64 vi_2)) (sv (d_move rfl)) ?_
    refine wS (v := (eS vprefix)) (sv (d_move rfl)) ?_
    refine wS (v := (eI .i64 (vprefix.size : Int))) (sv (d_len rfl (lenT ti9))) ?_
    refine wS (v := (eB (decide (vi_2 < (vprefix.size : Int))))) (sv (d_bin rfl rfl (bin_lss ..))) ?_
    refine OpsW.nil ?_
    refine Ex.then_mk ?_
    refine AB.cnd rfl (fun h11 => ?_) (fun h11 => ?_)
    · replace hr7 := iteT hr7 h11
      refine AB.skip ?_
      refine Ex.then_mk ?_
      refine AB.seq ?_
      refine AB.block ?_
      replace hr7 := bnd hr7; obtain ⟨x37, h_12, hr7⟩ := hr7
      replace hr7 := bnd hr7; obtain ⟨x40, h_13, hr7⟩ := hr7
      refine AB.rw ?_
      refine wS (v := (.sl 1 0 l1_6.length 1 false)) (sv (d_move rfl)) ?_
      refine wS (v := (eS vprefix)) (sv (d_move rfl)) ?_
      refine wS (v := (eI .i64 vi_2)) (sv (d_move rfl)) ?_
      refine wS (v := (eI .u8 x37)) (sv (d_ix rfl rfl (ixT ti9 h_12))) ?_
      refine wS (v := (eI .u8 (bits .and .u8 x37 31))) (sv (d_bin rfl rfl (bin_and ..))) ?_
      refine wS (v := (.sl 2 0 1 1 false)) (h' := [some ⟨24, (List.replicate 6 0).map (eI .u8)⟩, some ⟨5, l1_6.map (eI .u8)⟩, some ⟨5, [bits .and .u8 x37 31].map (eI .u8)⟩]) (sv (d_buildS rfl (bldL1 (xs := [bits .and .u8 x37 31].map (eI .u8)) ti22 ti5 (Nat.le_of_ble_eq_true rfl) (Nat.le_of_ble_eq_true rfl) rfl rfl rfl rfl rfl rfl rfl))) ?_
      refine wS (v := (.sl 3 0 x40.length 1 false)) (h' := [some ⟨24, (List.replicate 6 0).map (eI .u8)⟩, none, some ⟨5, [bits .and .u8 x37 31].map (eI .u8)⟩, some ⟨5, x40.map (eI .u8)⟩]) (sv (d_append rfl rfl (appS (E := (eI .u8)) rfl ti22 ti5 ⟨rfl, rfl, Nat.le_of_ble_eq_true rfl⟩ rfl (srcS rfl rfl) h_13 rfl rfl))) ?_
      refine wS (v := (.sl 3 0 x40.length 1 false)) (sv (d_assign rfl)) ?_
      refine OpsW.nil ?_
      refine Ex.inBlock_mk ?_
      refine Ex.then_mk ?_
      refine AB.rw ?_
      refine wS (v := (eI .i64 vi_2)) (sv (d_move rfl)) ?_
      refine wS (v := (eI .i64 (IntKind.i64.wrap (vi_2 + 1)))) (sv (d_bin rfl rfl (bin_add ..))) ?_
      refine wS (v := (eI .i64 (IntKind.i64.wrap (vi_2 + 1)))) (sv (d_assign rfl)) ?_
      refine OpsW.nil ?_
      refine Ex.then_mk ?_
      exact ⟨IntKind.i64.wrap (vi_2 + 1), x40, hr7, (Ghost.rn [0, 3] rfl rfl (FLe.same rfl (FLe.same rfl (FLe.same rfl (FLe.same rfl (FLe.same rfl FLe.nil))))) (HLe.live rfl (les_map (fun _ => rfl) _) (all_map (fun _ => rfl) _) (HLe.live rfl (les_map (fun _ => rfl) _) (all_map (fun _ => rfl) _) HLe.nil)) rfl)⟩
    · replace hr7 := iteF hr7 h11
      refine AB.exit ?_
      refine Ex.then_exit_mk ?_
      refine Ex.then_exit_mk ?_
      refine Ex.inBlock_same_mk ?_
      obtain rfl := Option.some.inj hr7
      refine Ex.then_mk ?_
      exact hG2 _ _ _ _ (Ghost.rn [0, 1] rfl rfl (FLe.same rfl (FLe.same rfl (FLe.same rfl FLe.nil))) (HLe.live rfl (les_map (fun _ => rfl) _) (all_map (fun _ => rfl) _) (HLe.live rfl (les_map (fun _ => rfl) _) (all_map (fun _ => rfl) _) HLe.nil)) rfl) (J2 l1_6 hr)
  refine AB.seq ?_
  refine AB.rw ?_
  refine wS (v := (eI .i64 0)) (sv (d_assign rfl)) ?_
  refine OpsW.nil ?_
  refine Ex.then_mk ?_
  replace hr := bnd hr; obtain ⟨res8, hL8, hr⟩ := hr
  refine AB.block ?_
  refine AB.loopN (fun m s h => ∃ (vi_3 : Int) (l1_7 : List Int), ref27_Checksum_L8 N vprefix d m vi_3 l1_7 = some res8 ∧ Ghost 0 s h (mkF 75 [(0, (eS vprefix)), (1, (.row none 1 (d.map (eI .u8)))), (4, (.ptr 0 0)), (5, (.sl 1 0 l1_7.length 1 false)), (6, (eI .i64 vi_3))]) [some ⟨24, (List.replicate 6 0).map (eI .u8)⟩, some ⟨5, l1_7.map (eI .u8)⟩]) (n := N) ⟨0, [], hL8, (Ghost.trans (Ghost.virt (fr' := [(0, (eS vprefix)), (1, (.row none 1 (d.map (eI .u8)))), (4, (.ptr 0 0)), (5, (.sl 1 0 0 1 false)), (6, (eI .i64 0))]) (h1 := [some ⟨24, (List.replicate 6 0).map (eI .u8)⟩]) 5 (FLe.same rfl (FLe.same rfl (FLe.same rfl (FLe.le rfl (V.le_virt rfl) (FLe.same rfl FLe.nil))))) (HLv.live (V.les_refl _ _) (all_map (fun _ => rfl) _) HLv.nil)) (Ghost.rn [0, 1] rfl rfl (FLe.same rfl (FLe.same rfl (FLe.same rfl (FLe.le rfl (by first | exact V.le_refl _ _ | (simp only [len_set, len_cpy]; exact V.le_refl _ _)) (FLe.same rfl FLe.nil))))) (HLe.live rfl (les_map (fun _ => rfl) _) (all_map (fun _ => rfl) _) (HLe.live rfl V.les_nil rfl HLe.nil)) rfl))⟩ (by rintro s h ⟨_, _, h0, _⟩; simp [ref27_Checksum_L8] at h0) ?_
  rintro m8 s h ⟨vi_3, l1_7, hr8, hg⟩
  refine AB.ghost hg ?_
  clear hg hL8
  rw [ref27_Checksum_L8] at hr8
  refine AB.seq ?_
  refine AB.seq ?_
  refine AB.rw ?_
  refine wS (v := (eI .i64 vi_3)) (sv (d_move rfl)) ?_
  refine wS (v := (eS vprefix)) (sv (d_move rfl)) ?_
  refine wS (v := (eI .i64 (vprefix.size : Int))) (sv (d_len rfl (lenT ti9))) ?_
  refine wS (v := (eB (decide (vi_3 < (vprefix.size : Int))))) (sv (d_bin rfl rfl (bin_lss ..))) ?_
  refine OpsW.nil ?_
  refine Ex.then_mk ?_
  refine AB.cnd rfl (fun h14 => ?_) (fun h14 => ?_)
  · replace hr8 := iteT hr8 h14
    refine AB.skip ?_
    refine Ex.then_mk ?_
    refine AB.seq ?_
    refine AB.block ?_
    replace hr8 := bnd hr8; obtain ⟨x21, h_15, hr8⟩ := hr8
    replace hr8 := bnd hr8; obtain ⟨x22, h_16, hr8⟩ := hr8
    replace hr8 := bnd hr8; obtain ⟨x24, h_17, hr8⟩ := hr8
    refine AB.rw ?_
    refine wS (v := (.sl 1 0 l1_7.length 1 false)) (sv (d_move rfl)) ?_
    refine wS (v := (eS vprefix)) (sv (d_move rfl)) ?_
    refine wS (v := (eI .i64 vi_3)) (sv (d_move rfl)) ?_
    refine wS (v := (eI .u8 x21)) (sv (d_ix rfl rfl (ixT ti9 h_15))) ?_
    refine wS (v := (eI .u8 x22)) (sv (d_bin rfl rfl (bin_shr' _ _ _ _ h_16))) ?_
    refine wS (v := (.sl 2 0 1 1 false)) (h' := [some ⟨24, (List.replicate 6 0).map (eI .u8)⟩, some ⟨5, l1_7.map (eI .u8)⟩, some ⟨5, [x22].map (eI .u8)⟩]) (sv (d_buildS rfl (bldL1 (xs := [x22].map (eI .u8)) ti22 ti5 (Nat.le_of_ble_eq_true rfl) (Nat.le_of_ble_eq_true rfl) rfl rfl rfl rfl rfl rfl rfl))) ?_
    refine wS (v := (.sl 3 0 x24.length 1 false)) (h' := [some ⟨24, (List.replicate 6 0).map (eI .u8)⟩, none, some ⟨5, [x22].map (eI .u8)⟩, some ⟨5, x24.map (eI .u8)⟩]) (sv (d_append rfl rfl (appS (E := (eI .u8)) rfl ti22 ti5 ⟨rfl, rfl, Nat.le_of_ble_eq_true rfl⟩ rfl (srcS rfl rfl) h_17 rfl rfl))) ?_
    refine wS (v := (.sl 3 0 x24.length 1 false)) (sv (d_assign rfl)) ?_
    refine OpsW.nil ?_
    refine Ex.inBlock_mk ?_
    refine Ex.then_mk ?_
    refine AB.rw ?_
    refine wS (v := (eI .i64 vi_3)) (sv (d_move rfl)) ?_
    refine wS (v := (eI .i64 (IntKind.i64.wrap (vi_3 + 1)))) (sv (d_bin rfl rfl (bin_add ..))) ?_
    refine wS (v := (eI .i64 (IntKind.i64.wrap (vi_3 + 1)))) (sv (d_assign rfl)) ?_
    refine OpsW.nil ?_
    refine Ex.then_mk ?_
    exact ⟨IntKind.i64.wrap (vi_3 + 1), x24, hr8, (Ghost.rn [0, 3] rfl rfl (FLe.same rfl (FLe.same rfl (FLe.same rfl (FLe.same rfl (FLe.same rfl FLe.nil))))) (HLe.live rfl (les_map (fun _ => rfl) _) (all_map (fun _ => rfl) _) (HLe.live rfl (les_map (fun _ => rfl) _) (all_map (fun _ => rfl) _) HLe.nil)) rfl)⟩
  · replace hr8 := iteF hr8 h14
    refine AB.exit ?_
    refine Ex.then_exit_mk ?_
    refine Ex.then_exit_mk ?_
    refine Ex.inBlock_same_mk ?_
    obtain rfl := Option.some.inj hr8
    refine Ex.then_mk ?_
    exact hG1 _ _ _ _ (Ghost.rn [0, 1] rfl rfl (FLe.same rfl (FLe.same rfl (FLe.same rfl (FLe.same rfl FLe.nil)))) (HLe.live rfl (les_map (fun _ => rfl) _) (all_map (fun _ => rfl) _) (HLe.live rfl (les_map (fun _ => rfl) _) (all_map (fun _ => rfl) _) HLe.nil)) rfl) (J1 l1_7 hr)
set_option maxRecDepth 20000 in
set_option maxHeartbeats 1000000 in
theorem mill_Mod_ok (N : Nat) (v : Int) (vn : Int) (r : Int) (hr : mill_Mod N v vn = some r) :
    Vm.Fn Tryd.prog 14 [] [(eI .i64 v), (eI .i64 vn)] (eI .i64 r) [] := by
  refine fn_ab Tryd.func14 rfl (by kernel_rfl) Tryd.ntmps14 (Nat.le_of_ble_eq_true rfl) rfl (fr := [(0, (eI .i64 v)), (1, (eI .i64 vn))]) rfl ?_
  unfold mill_Mod at hr
  refine AB.seq ?_
  refine AB.rw ?_
  refine wS (v := (eI .i64 0)) (sv (d_assign rfl)) ?_
  refine OpsW.nil ?_
  refine Ex.then_mk ?_
  refine AB.seq ?_
  replace hr := bnd hr; obtain ⟨x8, h_1, hr⟩ := hr
  refine AB.rw ?_
  refine wS (v := (eI .i64 v)) (sv (d_move rfl)) ?_
  refine wS (v := (eI .i64 vn)) (sv (d_move rfl)) ?_
  refine wS (v := (eI .i64 x8)) (sv (d_bin rfl rfl (bin_rem' _ _ _ _ h_1))) ?_
  refine wS (v := (eI .i64 x8)) (sv (d_assign rfl)) ?_
  refine OpsW.nil ?_
  refine Ex.then_mk ?_
  refine AB.seq_g fun K1 hK1 hG1 => ?_
  have J1 : ∀ (vr : Int), mill_Mod_J1 N vr = some r → K1 (mkF 15 [(5, (eI .i64 vr))]) [] := by
    intro vr hr
    unfold mill_Mod_J1 at hr
    refine hK1 _ _ ?_
    refine AB.seq ?_
    refine AB.rw ?_
    refine wS (v := (eI .i64 vr)) (sv (d_move rfl)) ?_
    refine wS (v := (eI .i64 vr)) (sv (d_assign rfl)) ?_
    refine OpsW.nil ?_
    refine Ex.then_mk ?_
    refine AB.ret ?_
    obtain rfl := Option.some.inj hr
    exact done_ret (r1 := (eI .i64 vr)) (res1 Tryd.results14 (rvT rfl)) (Ghost.rn [] rfl rfl (FLe.same rfl FLe.nil) HLe.nil rfl)
  refine AB.seq ?_
  refine AB.rw ?_
  refine wS (v := (eI .i64 x8)) (sv (d_move rfl)) ?_
  refine wS (v := (eB (decide (x8 < 0)))) (sv (d_bin rfl rfl (bin_lss ..))) ?_
  refine OpsW.nil ?_
  refine Ex.then_mk ?_
  refine AB.cnd rfl (fun h2 => ?_) (fun h2 => ?_)
  · replace hr := iteT hr h2
    refine AB.rw ?_
    refine wS (v := (eI .i64 x8)) (sv (d_move rfl)) ?_
    refine wS (v := (eI .i64 vn)) (sv (d_move rfl)) ?_
    refine wS (v := (eI .i64 (IntKind.i64.wrap (x8 + vn)))) (sv (d_bin rfl rfl (bin_add ..))) ?_
    refine wS (v := (eI .i64 (IntKind.i64.wrap (x8 + vn)))) (sv (d_assign rfl)) ?_
    refine OpsW.nil ?_
    refine Ex.then_mk ?_
    exact hG1 _ _ _ _ (Ghost.rn [] rfl rfl (FLe.same rfl FLe.nil) HLe.nil rfl) (J1 (IntKind.i64.wrap (x8 + vn)) hr)
  · replace hr := iteF hr h2
    refine AB.skip ?_
    refine Ex.then_mk ?_
    exact hG1 _ _ _ _ (Ghost.rn [] rfl rfl (FLe.same rfl FLe.nil) HLe.nil rfl) (J1 x8 hr)
set_option maxRecDepth 20000 in
set_option maxHeartbeats 1000000 in
theorem law27_prefix_ok (N : Nat) (vn : Int) (r : ByteArray) (hr : law27_prefix N vn = some r) :
    Vm.Fn Tryd.prog 11 [] [(eI .i64 vn)] (eS r) [] := by
  refine fn_ab Tryd.func11 rfl (by kernel_rfl) Tryd.ntmps11 (Nat.le_of_ble_eq_true rfl) rfl (fr := [(0, (eI .i64 vn))]) rfl ?_
  unfold law27_prefix at hr
  refine AB.seq ?_
  refine AB.rw ?_
  refine wS (v := (eS .empty)) (sv (d_assign rfl)) ?_
  refine OpsW.nil ?_
  refine Ex.then_mk ?_
  refine AB.seq ?_
  replace hr := bnd hr; obtain ⟨x5, h_1, hr⟩ := hr
  replace hr := bnd hr; obtain ⟨x6, h_2, hr⟩ := hr
  refine AB.rw ?_
  refine wS (v := (.sl 0 0 5 1 false)) (h' := [some ⟨9, [⟨#[108, 99]⟩, ⟨#[97]⟩, ⟨#[97, 98, 99, 100, 101, 102, 103, 104, 105, 106]⟩, ⟨#[122]⟩, ⟨#[116, 108, 99]⟩].map eS⟩]) (sv (d_buildS rfl (bldL1 (xs := [⟨#[108, 99]⟩, ⟨#[97]⟩, ⟨#[97, 98, 99, 100, 101, 102, 103, 104, 105, 106]⟩, ⟨#[122]⟩, ⟨#[116, 108, 99]⟩].map eS) ti28 ti9 (Nat.le_of_ble_eq_true rfl) (Nat.le_of_ble_eq_true rfl) rfl rfl rfl rfl rfl rfl rfl))) ?_
  refine wS (v := (eI .i64 vn)) (sv (d_move rfl)) ?_
  refine wC (v := (eI .i64 x5)) (h' := [some ⟨9, [⟨#[108, 99]⟩, ⟨#[97]⟩, ⟨#[97, 98, 99, 100, 101, 102, 103, 104, 105, 106]⟩, ⟨#[122]⟩, ⟨#[116, 108, 99]⟩].map eS⟩]) rfl (Vm.Fn.pure (mill_Mod_ok N vn 5 x5 h_1) rfl rfl) ?_
  refine wS (v := (.ptr 0 (Int.toNat x5))) (sv (d_ia rfl rfl (iaS rfl ti28 ti9 rfl h_2))) ?_
  refine wS (v := (eS x6)) (sv (d_load rfl (ldX (E := eS) (y := x6) ti9 rfl rfl h_2))) ?_
  refine wS (v := (eS x6)) (sv (d_assign rfl)) ?_
  refine OpsW.nil ?_
  refine Ex.then_mk ?_
  refine AB.ret ?_
  obtain rfl := Option.some.inj hr
  exact done_ret (r1 := (eS x6)) (res1 Tryd.results11 (rvT rfl)) (Ghost.rn [] rfl rfl (FLe.same rfl FLe.nil) HLe.nil rfl)
set_option maxRecDepth 20000 in
set_option maxHeartbeats 1000000 in
theorem law27_AddressSums_ok (N : Nat) (vs : ByteArray) (vn : Int) (d : List Int) (r : Bool) (hr : law27_AddressSums N vs vn d = some r) :
    Vm.Fn Tryd.prog 3 [] [(eS vs), (eI .i64 vn), (.row none 1 (d.map (eI .u8)))] (eB r) [] := by
  refine fn_ab Tryd.func3 rfl (by kernel_rfl) Tryd.ntmps3 (Nat.le_of_ble_eq_true rfl) rfl (fr := [(0, (eS vs)), (1, (eI .i64 vn)), (2, (.row none 1 (d.map (eI .u8))))]) rfl ?_
  unfold law27_AddressSums at hr
  refine AB.seq ?_
  refine AB.rw ?_
  refine wS (v := (eB false)) (sv (d_assign rfl)) ?_
  refine OpsW.nil ?_
  refine Ex.then_mk ?_
  refine AB.seq ?_
  refine AB.seq ?_
  replace hr := bnd hr; obtain ⟨x7, h_1, hr⟩ := hr
  refine AB.rw ?_
  refine wC (v := (eB x7)) (h' := []) rfl (Vm.Fn.pure (law27_sane_ok N x7 h_1) rfl rfl) ?_
  refine wS (v := (eB (!x7))) (sv (d_un rfl (un_not _ _))) ?_
  refine OpsW.nil ?_
  refine Ex.then_mk ?_
  refine AB.cnd rfl (fun h2 => ?_) (fun h2 => ?_)
  · replace hr := iteT hr h2
    refine AB.seq ?_
    refine AB.rw ?_
    refine wS (v := (eB false)) (sv (d_assign rfl)) ?_
    refine OpsW.nil ?_
    refine Ex.then_mk ?_
    refine AB.ret ?_
    refine Ex.then_ret_mk ?_
    obtain rfl := Option.some.inj hr
    exact done_ret (r1 := (eB false)) (res1 Tryd.results3 (rvT rfl)) (Ghost.rn [] rfl rfl (FLe.same rfl FLe.nil) HLe.nil rfl)
  · replace hr := iteF hr h2
    refine AB.skip ?_
    refine Ex.then_mk ?_
    refine AB.seq ?_
    refine AB.seq_g fun K1 hK1 hG1 => ?_
    have J1 : ∀ (x16 : Bool), law27_AddressSums_J1 N vs vn d x16 = some r → K1 (mkF 35 [(0, (eS vs)), (1, (eI .i64 vn)), (2, (.row none 1 (d.map (eI .u8)))), (16, (eB x16))]) [] := by
      intro x16 hr
      unfold law27_AddressSums_J1 at hr
      refine hK1 _ _ ?_
      refine AB.cnd rfl (fun h3 => ?_) (fun h3 => ?_)
      · replace hr := iteT hr h3
        refine AB.seq ?_
        refine AB.rw ?_
        refine wS (v := (eB true)) (sv (d_assign rfl)) ?_
        refine OpsW.nil ?_
        refine Ex.then_mk ?_
        refine AB.ret ?_
        refine Ex.then_ret_mk ?_
        obtain rfl := Option.some.inj hr
        exact done_ret (r1 := (eB true)) (res1 Tryd.results3 (rvT rfl)) (Ghost.rn [] rfl rfl (FLe.same rfl FLe.nil) HLe.nil rfl)
      · replace hr := iteF hr h3
        refine AB.skip ?_
        refine Ex.then_mk ?_
        refine AB.seq_g fun K2 hK2 hG2 => ?_
        have J2 : ∀ (x6 : Bool), law27_AddressSums_J2 N x6 = some r → K2 (mkF 35 [(6, (eB x6))]) [] := by
          intro x6 hr
          unfold law27_AddressSums_J2 at hr
          refine hK2 _ _ ?_
          refine AB.ret ?_
          obtain rfl := Option.some.inj hr
          exact done_ret (r1 := (eB x6)) (res1 Tryd.results3 (rvT rfl)) (Ghost.rn [] rfl rfl (FLe.same rfl FLe.nil) HLe.nil rfl)
        replace hr := bnd hr; obtain ⟨x19, h_4, hr⟩ := hr
        replace hr := bnd hr; obtain ⟨x22, h_5, hr⟩ := hr
        replace hr := bnd hr; obtain ⟨q, h_6, hr⟩ := hr
        replace hr := bnd hr; obtain ⟨q_1, h_7, hr⟩ := hr
        rcases Bool.eq_false_or_eq_true (x19 == x22) with h8 | h8
        · replace hr := iteT hr h8
          replace hr := bnd hr; obtain ⟨x26, h_9, hr⟩ := hr
          replace hr := bnd hr; obtain ⟨x28, h_10, hr⟩ := hr
          replace hr := bnd hr; obtain ⟨x32, h_11, hr⟩ := hr
          replace hr := bnd hr; obtain ⟨q_2, h_12, hr⟩ := hr
          replace hr := bnd hr; obtain ⟨q_3, h_13, hr⟩ := hr
          refine AB.rw ?_
          refine wS (v := (eS vs)) (sv (d_move rfl)) ?_
          refine wS (v := (.row none 1 (d.map (eI .u8)))) (sv (d_move rfl)) ?_
          refine wC (v := (.agg (x19.map (eI .u8)))) (h' := []) rfl (Vm.Fn.pure (address_Checksum_ok N vs d x19 h_4) rfl (by simp only [V.rn, V.rns, rns_eI, rns_eB])) ?_
          refine wS (v := (eS vs)) (sv (d_move rfl)) ?_
          refine wS (v := (.row none 1 (d.map (eI .u8)))) (sv (d_move rfl)) ?_
          refine wC (v := (.agg (x22.map (eI .u8)))) (h' := []) rfl (Vm.Fn.pure (ref27_Checksum_ok N vs d x22 h_5) rfl (by simp only [V.rn, V.rns, rns_eI, rns_eB])) ?_
          refine wS (v := (eB (x19 == x22))) (sv (d_bin rfl rfl (bin_eqlA _ _ ti24 ti5 rfl dep (arr_len h_6) (arr_len h_7)))) ?_
          refine wS (v := (eB (x19 == x22))) (sv (d_move rfl)) ?_
          refine wS (v := (eI .i64 vn)) (svG rfl rfl h8 (d_move rfl)) ?_
          refine wCG (v := (eS x26)) (h' := []) rfl rfl h8 rfl (Vm.Fn.pure (law27_prefix_ok N vn x26 h_9) rfl rfl) ?_
          refine wS (v := (.row none 1 (d.map (eI .u8)))) (svG rfl rfl h8 (d_move rfl)) ?_
          refine wCG (v := (.agg (x28.map (eI .u8)))) (h' := []) rfl rfl h8 rfl (Vm.Fn.pure (address_Checksum_ok N x26 d x28 h_10) rfl (by simp only [V.rn, V.rns, rns_eI, rns_eB])) ?_
          refine wS (v := (eI .i64 vn)) (svG rfl rfl h8 (d_move rfl)) ?_
          refine wCG (v := (eS x26)) (h' := []) rfl rfl h8 rfl (Vm.Fn.pure (law27_prefix_ok N vn x26 h_9) rfl rfl) ?_
          refine wS (v := (.row none 1 (d.map (eI .u8)))) (svG rfl rfl h8 (d_move rfl)) ?_
          refine wCG (v := (.agg (x32.map (eI .u8)))) (h' := []) rfl rfl h8 rfl (Vm.Fn.pure (ref27_Checksum_ok N x26 d x32 h_11) rfl (by simp only [V.rn, V.rns, rns_eI, rns_eB])) ?_
          refine wS (v := (eB (x28 == x32))) (svG rfl rfl h8 (d_bin rfl rfl (bin_eqlA _ _ ti24 ti5 rfl dep (arr_len h_12) (arr_len h_13)))) ?_
          refine wS (v := (eB (x28 == x32))) (sv (d_pickT rfl h8 rfl)) ?_
          refine wS (v := (eB (x28 == x32))) (sv (d_assign rfl)) ?_
          refine OpsW.nil ?_
          refine Ex.then_mk ?_
          exact hG2 _ _ _ _ (Ghost.rn [] rfl rfl (FLe.same rfl FLe.nil) HLe.nil rfl) (J2 (x28 == x32) hr)
        · replace hr := iteF hr h8
          refine AB.rw ?_
          refine wS (v := (eS vs)) (sv (d_move rfl)) ?_
          refine wS (v := (.row none 1 (d.map (eI .u8)))) (sv (d_move rfl)) ?_
          refine wC (v := (.agg (x19.map (eI .u8)))) (h' := []) rfl (Vm.Fn.pure (address_Checksum_ok N vs d x19 h_4) rfl (by simp only [V.rn, V.rns, rns_eI, rns_eB])) ?_
          refine wS (v := (eS vs)) (sv (d_move rfl)) ?_
          refine wS (v := (.row none 1 (d.map (eI .u8)))) (sv (d_move rfl)) ?_
          refine wC (v := (.agg (x22.map (eI .u8)))) (h' := []) rfl (Vm.Fn.pure (ref27_Checksum_ok N vs d x22 h_5) rfl (by simp only [V.rn, V.rns, rns_eI, rns_eB])) ?_
          refine wS (v := (eB (x19 == x22))) (sv (d_bin rfl rfl (bin_eqlA _ _ ti24 ti5 rfl dep (arr_len h_6) (arr_len h_7)))) ?_
          refine wS (v := (eB (x19 == x22))) (sv (d_move rfl)) ?_
          refine wS (svX rfl rfl h8) ?_
          refine wS (svX rfl rfl h8) ?_
          refine wS (svX rfl rfl h8) ?_
          refine wS (svX rfl rfl h8) ?_
          refine wS (svX rfl rfl h8) ?_
          refine wS (svX rfl rfl h8) ?_
          refine wS (svX rfl rfl h8) ?_
          refine wS (svX rfl rfl h8) ?_
          refine wS (svX rfl rfl h8) ?_
          refine wS (v := (eB false)) (sv (d_pickF rfl h8 rfl)) ?_
          refine wS (v := (eB false)) (sv (d_assign rfl)) ?_
          refine OpsW.nil ?_
          refine Ex.then_mk ?_
          exact hG2 _ _ _ _ (Ghost.rn [] rfl rfl (FLe.same rfl FLe.nil) HLe.nil rfl) (J2 false hr)
    rcases Bool.eq_false_or_eq_true (decide (30 < (vs.size : Int))) with h14 | h14
    · replace hr := iteT hr h14
      refine AB.rw ?_
      refine wS (v := (eS vs)) (sv (d_move rfl)) ?_
      refine wS (v := (eI .i64 (vs.size : Int))) (sv (d_len rfl (lenT ti9))) ?_
      refine wS (v := (eB (decide (30 < (vs.size : Int))))) (sv (d_bin rfl rfl (bin_gtr ..))) ?_
      refine wS (v := (eB (decide (30 < (vs.size : Int))))) (sv (d_move rfl)) ?_
      refine wS (svX rfl rfl h14) ?_
      refine wS (svX rfl rfl h14) ?_
      refine wS (svX rfl rfl h14) ?_
      refine wS (v := (eB true)) (sv (d_pickT rfl h14 rfl)) ?_
      refine OpsW.nil ?_
      refine Ex.then_mk ?_
      exact hG1 _ _ _ _ (Ghost.rn [] rfl rfl (FLe.same rfl (FLe.same rfl (FLe.same rfl (FLe.same rfl FLe.nil)))) HLe.nil rfl) (J1 true hr)
    · replace hr := iteF hr h14
      refine AB.rw ?_
      refine wS (v := (eS vs)) (sv (d_move rfl)) ?_
      refine wS (v := (eI .i64 (vs.size : Int))) (sv (d_len rfl (lenT ti9))) ?_
      refine wS (v := (eB (decide (30 < (vs.size : Int))))) (sv (d_bin rfl rfl (bin_gtr ..))) ?_
      refine wS (v := (eB (decide (30 < (vs.size : Int))))) (sv (d_move rfl)) ?_
      refine wS (v := (.row none 1 (d.map (eI .u8)))) (svG rfl rfl h14 (d_move rfl)) ?_
      refine wS (v := (eI .i64 (d.length : Int))) (svG rfl rfl h14 (d_len rfl (lenR ti22))) ?_
      refine wS (v := (eB (decide (200 < (d.length : Int))))) (svG rfl rfl h14 (d_bin rfl rfl (bin_gtr ..))) ?_
      refine wS (v := (eB (decide (200 < (d.length : Int))))) (sv (d_pickF rfl h14 rfl)) ?_
      refine OpsW.nil ?_
      refine Ex.then_mk ?_
      exact hG1 _ _ _ _ (Ghost.rn [] rfl rfl (FLe.same rfl (FLe.same rfl (FLe.same rfl (FLe.same rfl FLe.nil)))) HLe.nil rfl) (J1 (decide (200 < (d.length : Int))) hr)
set_option maxRecDepth 20000 in
set_option maxHeartbeats 1000000 in
theorem address_Prefix_ok (N : Nat) (vs : ByteArray) (r : Bool) (hr : address_Prefix N vs = some r) :
    Vm.Fn Tryd.prog 22 [] [(eS vs)] (eB r) [] := by
  refine fn_ab Tryd.func22 rfl (by kernel_rfl) Tryd.ntmps22 (Nat.le_of_ble_eq_true rfl) rfl (fr := [(0, (eS vs))]) rfl ?_
  unfold address_Prefix at hr
  refine AB.seq ?_
  refine AB.rw ?_
  refine wS (v := (eB false)) (sv (d_assign rfl)) ?_
  refine OpsW.nil ?_
  refine Ex.then_mk ?_
  refine AB.seq_g fun K1 hK1 hG1 => ?_
  have J1 : address_Prefix_J1 N vs = some r → K1 (mkF 28 [(0, (eS vs))]) [] := by
    intro hr
    unfold address_Prefix_J1 at hr
    refine hK1 _ _ ?_
    refine AB.seq_g fun K2 hK2 hG2 => ?_
    have J2 : ∀ (x2 : Bool), address_Prefix_J2 N x2 = some r → K2 (mkF 28 [(2, (eB x2))]) [] := by
      intro x2 hr
      unfold address_Prefix_J2 at hr
      refine hK2 _ _ ?_
      refine AB.ret ?_
      obtain rfl := Option.some.inj hr
      exact done_ret (r1 := (eB x2)) (res1 Tryd.results22 (rvT rfl)) (Ghost.rn [] rfl rfl (FLe.same rfl FLe.nil) HLe.nil rfl)
    rcases Bool.eq_false_or_eq_true (decide (1 ≤ (vs.size : Int))) with h1 | h1
    · replace hr := iteT hr h1
      refine AB.rw ?_
      refine wS (v := (eS vs)) (sv (d_move rfl)) ?_
      refine wS (v := (eI .i64 (vs.size : Int))) (sv (d_len rfl (lenT ti9))) ?_
      refine wS (v := (eB (decide (1 ≤ (vs.size : Int))))) (sv (d_bin rfl rfl (bin_geq ..))) ?_
      refine wS (v := (eB (decide (1 ≤ (vs.size : Int))))) (sv (d_move rfl)) ?_
      refine wS (v := (eS vs)) (svG rfl rfl h1 (d_move rfl)) ?_
      refine wS (v := (eI .i64 (vs.size : Int))) (svG rfl rfl h1 (d_len rfl (lenT ti9))) ?_
      refine wS (v := (eB (decide ((vs.size : Int) ≤ 10)))) (svG rfl rfl h1 (d_bin rfl rfl (bin_leq ..))) ?_
      refine wS (v := (eB (decide ((vs.size : Int) ≤ 10)))) (sv (d_pickT rfl h1 rfl)) ?_
      refine wS (v := (eB (decide ((vs.size : Int) ≤ 10)))) (sv (d_assign rfl)) ?_
      refine OpsW.nil ?_
      refine Ex.then_mk ?_
      exact hG2 _ _ _ _ (Ghost.rn [] rfl rfl (FLe.same rfl FLe.nil) HLe.nil rfl) (J2 (decide ((vs.size : Int) ≤ 10)) hr)
    · replace hr := iteF hr h1
      refine AB.rw ?_
      refine wS (v := (eS vs)) (sv (d_move rfl)) ?_
      refine wS (v := (eI .i64 (vs.size : Int))) (sv (d_len rfl (lenT ti9))) ?_
      refine wS (v := (eB (decide (1 ≤ (vs.size : Int))))) (sv (d_bin rfl rfl (bin_geq ..))) ?_
      refine wS (v := (eB (decide (1 ≤ (vs.size : Int))))) (sv (d_move rfl)) ?_
      refine wS (svX rfl rfl h1) ?_
      refine wS (svX rfl rfl h1) ?_
      refine wS (svX rfl rfl h1) ?_
      refine wS (v := (eB false)) (sv (d_pickF rfl h1 rfl)) ?_
      refine wS (v := (eB false)) (sv (d_assign rfl)) ?_
      refine OpsW.nil ?_
      refine Ex.then_mk ?_
      exact hG2 _ _ _ _ (Ghost.rn [] rfl rfl (FLe.same rfl FLe.nil) HLe.nil rfl) (J2 false hr)
  refine AB.seq ?_
  refine AB.rw ?_
  refine wS (v := (eS vs)) (sv (d_move rfl)) ?_
  refine wS (v := (eI .i64 (vs.size : Int))) (sv (d_len rfl (lenT ti9))) ?_
  refine wS (v := (eI .i64 0)) (sv (d_move rfl)) ?_
  refine OpsW.nil ?_
  refine Ex.then_mk ?_
  replace hr := bnd hr; obtain ⟨res3, hL3, hr⟩ := hr
  refine AB.block ?_
  refine AB.loopN (fun m s h => ∃ (x6 : Int), address_Prefix_L3 N vs m x6 = some res3 ∧ Ghost 0 s h (mkF 28 [(0, (eS vs)), (5, (eI .i64 (vs.size : Int))), (6, (eI .i64 x6))]) []) (n := N) ⟨0, hL3, (Ghost.rn [] rfl rfl (FLe.same rfl (FLe.same rfl (FLe.same rfl FLe.nil))) HLe.nil rfl)⟩ (by rintro s h ⟨_, h0, _⟩; simp [address_Prefix_L3] at h0) ?_
  rintro m3 s h ⟨x6, hr3, hg⟩
  refine AB.ghost hg ?_
  clear hg hL3
  rw [address_Prefix_L3] at hr3
  refine AB.seq ?_
  refine AB.rw ?_
  refine wS (v := (eB (decide (x6 < (vs.size : Int))))) (sv (d_bin rfl rfl (bin_lss ..))) ?_
  refine OpsW.nil ?_
  refine Ex.then_mk ?_
  refine AB.seq ?_
  refine AB.cnd rfl (fun h2 => ?_) (fun h2 => ?_)
  · replace hr3 := iteT hr3 h2
    refine AB.skip ?_
    refine Ex.then_mk ?_
    refine AB.seq ?_
    refine AB.block ?_
    refine AB.seq ?_
    refine AB.rw ?_
    refine wS (v := (eI .i64 x6)) (sv (d_move rfl)) ?_
    refine wS (v := (eI .i64 x6)) (sv (d_assign rfl)) ?_
    refine OpsW.nil ?_
    refine Ex.then_mk ?_
    refine AB.seq_g fun K4 hK4 hG4 => ?_
    have J4 : ∀ (x18 : Bool), address_Prefix_J4 N vs x6 (address_Prefix_L3 N vs m3) x18 = some res3 → K4 (mkF 28 [(0, (eS vs)), (5, (eI .i64 (vs.size : Int))), (6, (eI .i64 x6)), (18, (eB x18))]) [] := by
      intro x18 hr3
      unfold address_Prefix_J4 at hr3
      refine hK4 _ _ ?_
      refine AB.cnd rfl (fun h3 => ?_) (fun h3 => ?_)
      · replace hr3 := iteT hr3 h3
        refine AB.seq ?_
        refine AB.rw ?_
        refine wS (v := (eB false)) (sv (d_assign rfl)) ?_
        refine OpsW.nil ?_
        refine Ex.then_mk ?_
        refine AB.ret ?_
        refine Ex.inBlock_ret_mk ?_
        refine Ex.then_ret_mk ?_
        refine Ex.then_ret_mk ?_
        refine Ex.inBlock_ret_mk ?_
        refine Ex.then_ret_mk ?_
        obtain rfl := Option.some.inj hr3
        obtain rfl := Option.some.inj hr
        exact done_ret (r1 := (eB false)) (res1 Tryd.results22 (rvT rfl)) (Ghost.rn [] rfl rfl (FLe.same rfl FLe.nil) HLe.nil rfl)
      · replace hr3 := iteF hr3 h3
        refine AB.skip ?_
        refine Ex.inBlock_mk ?_
        refine Ex.then_mk ?_
        refine AB.rw ?_
        refine wS (v := (eI .i64 (IntKind.i64.wrap (x6 + 1)))) (sv (d_bin rfl rfl (bin_add ..))) ?_
        refine wS (v := (eI .i64 (IntKind.i64.wrap (x6 + 1)))) (sv (d_move rfl)) ?_
        refine OpsW.nil ?_
        refine Ex.then_mk ?_
        exact ⟨IntKind.i64.wrap (x6 + 1), hr3, (Ghost.rn [] rfl rfl (FLe.same rfl (FLe.same rfl (FLe.same rfl FLe.nil))) HLe.nil rfl)⟩
    replace hr3 := bnd hr3; obtain ⟨x11, h_4, hr3⟩ := hr3
    rcases Bool.eq_false_or_eq_true (decide (x11 < 97)) with h5 | h5
    · replace hr3 := iteT hr3 h5
      refine AB.rw ?_
      refine wS (v := (eS vs)) (sv (d_move rfl)) ?_
      refine wS (v := (eI .i64 x6)) (sv (d_move rfl)) ?_
      refine wS (v := (eI .u8 x11)) (sv (d_ix rfl rfl (ixT ti9 h_4))) ?_
      refine wS (v := (eB (decide (x11 < 97)))) (sv (d_bin rfl rfl (bin_lss ..))) ?_
      refine wS (v := (eB (decide (x11 < 97)))) (sv (d_move rfl)) ?_
      refine wS (svX rfl rfl h5) ?_
      refine wS (svX rfl rfl h5) ?_
      refine wS (svX rfl rfl h5) ?_
      refine wS (svX rfl rfl h5) ?_
      refine wS (v := (eB true)) (sv (d_pickT rfl h5 rfl)) ?_
      refine OpsW.nil ?_
      refine Ex.then_mk ?_
      exact hG4 _ _ _ _ (Ghost.rn [] rfl rfl (FLe.same rfl (FLe.same rfl (FLe.same rfl (FLe.same rfl FLe.nil)))) HLe.nil rfl) (J4 true hr3)
    · replace hr3 := iteF hr3 h5
      refine AB.rw ?_
      refine wS (v := (eS vs)) (sv (d_move rfl)) ?_
      refine wS (v := (eI .i64 x6)) (sv (d_move rfl)) ?_
      refine wS (v := (eI .u8 x11)) (sv (d_ix rfl rfl (ixT ti9 h_4))) ?_
      refine wS (v := (eB (decide (x11 < 97)))) (sv (d_bin rfl rfl (bin_lss ..))) ?_
      refine wS (v := (eB (decide (x11 < 97)))) (sv (d_move rfl)) ?_
      refine wS (v := (eS vs)) (svG rfl rfl h5 (d_move rfl)) ?_
      refine wS (v := (eI .i64 x6)) (svG rfl rfl h5 (d_move rfl)) ?_
      refine wS (v := (eI .u8 x11)) (svG rfl rfl h5 (d_ix rfl rfl (ixT ti9 h_4))) ?_
      refine wS (v := (eB (decide (122 < x11)))) (svG rfl rfl h5 (d_bin rfl rfl (bin_gtr ..))) ?_
      refine wS (v := (eB (decide (122 < x11)))) (sv (d_pickF rfl h5 rfl)) ?_
      refine OpsW.nil ?_
      refine Ex.then_mk ?_
      exact hG4 _ _ _ _ (Ghost.rn [] rfl rfl (FLe.same rfl (FLe.same rfl (FLe.same rfl (FLe.same rfl FLe.nil)))) HLe.nil rfl) (J4 (decide (122 < x11)) hr3)
  · replace hr3 := iteF hr3 h2
    refine AB.exit ?_
    refine Ex.then_exit_mk ?_
    refine Ex.then_exit_mk ?_
    refine Ex.inBlock_same_mk ?_
    obtain rfl := Option.some.inj hr3
    refine Ex.then_mk ?_
    exact hG1 _ _ _ _ (Ghost.rn [] rfl rfl (FLe.same rfl FLe.nil) HLe.nil rfl) (J1 hr)
set_option maxRecDepth 20000 in
set_option maxHeartbeats 1000000 in
theorem address_Encode_ok (N : Nat) (vprefix : ByteArray) (b : List Int) (r : ByteArray × Int) (hr : address_Encode N vprefix b = some r) :
    Vm.Fn Tryd.prog 12 [] [(eS vprefix), (.row none 1 (b.map (eI .u8)))] (.tup [(eS r.1), (eI .i64 r.2)]) [] := by
  refine fn_ab Tryd.func12 rfl (by kernel_rfl) Tryd.ntmps12 (Nat.le_of_ble_eq_true rfl) rfl (fr := [(0, (eS vprefix)), (1, (.row none 1 (b.map (eI .u8))))]) rfl ?_
  unfold address_Encode at hr
  refine AB.seq ?_
  refine AB.rw ?_
  refine wS (v := (eS .empty)) (sv (d_assign rfl)) ?_
  refine wS (v := (eI .i64 0)) (sv (d_assign rfl)) ?_
  refine OpsW.nil ?_
  refine Ex.then_mk ?_
  refine AB.seq ?_
  refine AB.seq ?_
  replace hr := bnd hr; obtain ⟨x12, h_1, hr⟩ := hr
  refine AB.rw ?_
  refine wS (v := (eS vprefix)) (sv (d_move rfl)) ?_
  refine wC (v := (eB x12)) (h' := []) rfl (Vm.Fn.pure (address_Prefix_ok N vprefix x12 h_1) rfl rfl) ?_
  refine wS (v := (eB (!x12))) (sv (d_un rfl (un_not _ _))) ?_
  refine OpsW.nil ?_
  refine Ex.then_mk ?_
  refine AB.cnd rfl (fun h2 => ?_) (fun h2 => ?_)
  · replace hr := iteT hr h2
    refine AB.seq ?_
    refine AB.rw ?_
    refine wS (v := (eS .empty)) (sv (d_assign rfl)) ?_
    refine wS (v := (eI .i64 270)) (sv (d_assign rfl)) ?_
    refine OpsW.nil ?_
    refine Ex.then_mk ?_
    refine AB.ret ?_
    refine Ex.then_ret_mk ?_
    obtain rfl := Option.some.inj hr
    exact done_ret (r1 := (.tup [(eS .empty), (eI .i64 270)])) (res2 Tryd.results12 (rvT rfl) (rvT rfl)) (Ghost.rn [] rfl rfl (FLe.same rfl FLe.nil) HLe.nil rfl)
  · replace hr := iteF hr h2
    refine AB.skip ?_
    refine Ex.then_mk ?_
    refine AB.seq ?_
    refine AB.seq ?_
    refine AB.rw ?_
    refine wS (v := (.row none 1 (b.map (eI .u8)))) (sv (d_move rfl)) ?_
    refine wS (v := (eI .i64 (b.length : Int))) (sv (d_len rfl (lenR ti22))) ?_
    refine wS (v := (eB (decide (100 < (b.length : Int))))) (sv (d_bin rfl rfl (bin_gtr ..))) ?_
    refine OpsW.nil ?_
    refine Ex.then_mk ?_
    refine AB.cnd rfl (fun h3 => ?_) (fun h3 => ?_)
    · replace hr := iteT hr h3
      refine AB.seq ?_
      refine AB.rw ?_
      refine wS (v := (eS .empty)) (sv (d_assign rfl)) ?_
      refine wS (v := (eI .i64 4)) (sv (d_assign rfl)) ?_
      refine OpsW.nil ?_
      refine Ex.then_mk ?_
      refine AB.ret ?_
      refine Ex.then_ret_mk ?_
      obtain rfl := Option.some.inj hr
      exact done_ret (r1 := (.tup [(eS .empty), (eI .i64 4)])) (res2 Tryd.results12 (rvT rfl) (rvT rfl)) (Ghost.rn [] rfl rfl (FLe.same rfl FLe.nil) HLe.nil rfl)
    · replace hr := iteF hr h3
      refine AB.skip ?_
      refine Ex.then_mk ?_
      refine AB.seq ?_
      replace hr := bnd hr; obtain ⟨x18, h_4, hr⟩ := hr
      refine AB.rw ?_
      refine wS (v := (.row none 1 (b.map (eI .u8)))) (sv (d_move rfl)) ?_
      refine wC (v := (.sl 0 0 x18.length 1 false)) (h' := [some ⟨5, x18.map (eI .u8)⟩]) rfl (Vm.Fn.lendB (address_Convert_ok N b x18 h_4) [] (by decide) rfl Lend.nil rfl rfl (by simp only [lent, lendSet, lendSet_nil, rnH, Blk.rn, V.rns, V.rn, sg, List.map_cons, List.map_nil, Option.map_some, Option.map_none, List.drop_succ_cons, List.drop_zero, List.drop_nil, List.set_cons_zero, List.set_cons_succ, List.cons_append, List.nil_append, List.append_nil, rns_eI, rns_eB, rns_eS, rns_eL, List.getElem?_cons_zero, List.getElem?_cons_succ, List.getElem?_nil, List.length_cons, List.length_nil, Nat.reduceAdd, Nat.reduceSub, Nat.add_zero, Nat.zero_add, Nat.sub_self, Nat.sub_zero])) ?_
      refine wS (v := (.sl 0 0 x18.length 1 false)) (sv (d_assign rfl)) ?_
      refine OpsW.nil ?_
      refine Ex.then_mk ?_
      refine AB.seq ?_
      replace hr := bnd hr; obtain ⟨x21, h_5, hr⟩ := hr
      replace hr := bnd hr; obtain ⟨q, h_6, hr⟩ := hr
      refine AB.rw ?_
      refine wS (v := (eS vprefix)) (sv (d_move rfl)) ?_
      refine wS (v := (.sl 0 0 x18.length 1 false)) (sv (d_move rfl)) ?_
      refine wC (v := (.agg (x21.map (eI .u8)))) (h' := [some ⟨5, x18.map (eI .u8)⟩]) rfl (Vm.Fn.lendR (address_Checksum_ok N vprefix x18 x21 h_5) [] [0] (by decide) rfl (by decide) Lend.nil (Brw.same rfl (Brw.row (exp_slT rfl rfl (fun _ => rfl)) Brw.nil)) (by simp [V.rf, V.rfs, rfs_eI, rfs_eB]) rfB.nil (by simp only [V.rn, V.rns, rns_eI, rns_eB]) (by simp only [lent, lendSet, lendSet_nil, rnH, Blk.rn, V.rns, V.rn, sg, List.map_cons, List.map_nil, Option.map_some, Option.map_none, List.drop_succ_cons, List.drop_zero, List.drop_nil, List.set_cons_zero, List.set_cons_succ, List.cons_append, List.nil_append, List.append_nil, rns_eI, rns_eB, rns_eS, rns_eL, List.getElem?_cons_zero, List.getElem?_cons_succ, List.getElem?_nil, List.length_cons, List.length_nil, Nat.reduceAdd, Nat.reduceSub, Nat.add_zero, Nat.zero_add, Nat.sub_self, Nat.sub_zero])) ?_
      refine wS (v := (.ptr 1 0)) (h' := [some ⟨5, x18.map (eI .u8)⟩, some ⟨24, (List.replicate 6 0).map (eI .u8)⟩]) (sv (d_alloc ti24 rfl rfl rfl)) ?_
      refine wN (h' := [some ⟨5, x18.map (eI .u8)⟩, some ⟨24, x21.map (eI .u8)⟩]) (sv (d_store rfl rfl (stA (E := (eI .u8)) (l := List.replicate 6 0) ti24 rfl rfl (fun _ => rfl) rfl (arr_len h_6) rfl))) ?_
      refine OpsW.nil ?_
      refine Ex.then_mk ?_
      refine AB.seq ?_
      replace hr := bnd hr; obtain ⟨x23, h_7, hr⟩ := hr
      replace hr := bnd hr; obtain ⟨x24, h_8, hr⟩ := hr
      refine AB.rw ?_
      refine wS (v := (eS vprefix)) (sv (d_move rfl)) ?_
      refine wS (v := (eS x23)) (sv (d_bin rfl rfl (bin_cat _ _ _ h_7))) ?_
      refine wStr (h' := [some ⟨5, x18.map (eI .u8)⟩, some ⟨24, x21.map (eI .u8)⟩, some ⟨5, x24.map (eI .u8)⟩]) rfl ti9 ti22 ti5 h_8 rfl rfl ?_
      refine wS (v := (.sl 2 0 x24.length 1 false)) (sv (d_assign rfl)) ?_
      refine OpsW.nil ?_
      refine Ex.then_mk ?_
      refine AB.seq_g fun K1 hK1 hG1 => ?_
      have J1 : ∀ (l0 : List Int), address_Encode_J1 N l0 = some r → K1 (mkF 41 [(8, (.sl 0 0 l0.length 1 false))]) [some ⟨5, l0.map (eI .u8)⟩] := by
        intro l0 hr
        unfold address_Encode_J1 at hr
        refine hK1 _ _ ?_
        refine AB.seq ?_
        refine AB.rw ?_
        refine wS (v := (.sl 0 0 l0.length 1 false)) (sv (d_move rfl)) ?_
        refine wS (v := (eS (strOf l0))) (sv (d_conv rfl (convB ti22 ti9 ti5 (srcS rfl rfl)))) ?_
        refine wS (v := (eS (strOf l0))) (sv (d_assign rfl)) ?_
        refine wS (v := (eI .i64 0)) (sv (d_assign rfl)) ?_
        refine OpsW.nil ?_
        refine Ex.then_mk ?_
        refine AB.ret ?_
        obtain rfl := Option.some.inj hr
        exact done_ret (r1 := (.tup [(eS (strOf l0)), (eI .i64 0)])) (res2 Tryd.results12 (rvT rfl) (rvT rfl)) (Ghost.rn [] rfl rfl (FLe.same rfl FLe.nil) HLe.nil rfl)
      refine AB.seq ?_
      replace hr := bnd hr; obtain ⟨x27, h_9, hr⟩ := hr
      refine AB.rw ?_
      refine wS (v := (.sl 0 0 x18.length 1 false)) (sv (d_move rfl)) ?_
      refine wS (v := (.sl 1 0 6 1 false)) (sv (d_slice rfl rfl rfl (slA (E := (eI .u8)) (l := x21) ti24 ti5 rfl rfl rfl (arr_len h_6) ⟨Nat.le_of_ble_eq_true rfl, Nat.le_of_ble_eq_true rfl⟩))) ?_
      refine wS (v := (.sl 3 0 x27.length 1 false)) (h' := [none, some ⟨24, x21.map (eI .u8)⟩, some ⟨5, x24.map (eI .u8)⟩, some ⟨5, x27.map (eI .u8)⟩]) (sv (d_append rfl rfl (appS (E := (eI .u8)) rfl ti22 ti5 ⟨rfl, rfl, Nat.le_of_ble_eq_true rfl⟩ rfl (srcS (arr_len h_6) rfl) h_9 rfl rfl))) ?_
      refine wS (v := (eI .i64 (x27.length : Int))) (sv (d_len rfl (lenS ti22))) ?_
      refine wS (v := (eI .i64 0)) (sv (d_move rfl)) ?_
      refine OpsW.nil ?_
      refine Ex.then_mk ?_
      replace hr := bnd hr; obtain ⟨res2, hL2, hr⟩ := hr
      refine AB.block ?_
      refine AB.loopN (fun m s h => ∃ (x29 : Int) (l0_1 : List Int), address_Encode_L2 N x27 m x29 l0_1 = some res2 ∧ Ghost 0 s h (mkF 41 [(8, (.sl 0 0 l0_1.length 1 false)), (27, (.sl 1 0 x27.length 1 false)), (28, (eI .i64 (x27.length : Int))), (29, (eI .i64 x29))]) [some ⟨5, l0_1.map (eI .u8)⟩, some ⟨5, x27.map (eI .u8)⟩]) (n := N) ⟨0, x24, hL2, (Ghost.rn [2, 3] rfl rfl (FLe.same rfl (FLe.same rfl (FLe.same rfl (FLe.same rfl FLe.nil)))) (HLe.live rfl (les_map (fun _ => rfl) _) (all_map (fun _ => rfl) _) (HLe.live rfl (les_map (fun _ => rfl) _) (all_map (fun _ => rfl) _) HLe.nil)) rfl)⟩ (by rintro s h ⟨_, _, h0, _⟩; simp [address_Encode_L2] at h0) ?_
      rintro m2 s h ⟨x29, l0_1, hr2, hg⟩
      refine AB.ghost hg ?_
      clear hg hL2
      rw [address_Encode_L2] at hr2
      refine AB.seq ?_
      refine AB.rw ?_
      refine wS (v := (eB (decide (x29 < (x27.length : Int))))) (sv (d_bin rfl rfl (bin_lss ..))) ?_
      refine OpsW.nil ?_
      refine Ex.then_mk ?_
      refine AB.seq ?_
      refine AB.cnd rfl (fun h10 => ?_) (fun h10 => ?_)
      · replace hr2 := iteT hr2 h10
        refine AB.skip ?_
        refine Ex.then_mk ?_
        refine AB.seq ?_
        refine AB.block ?_
        refine AB.seq ?_
        replace hr2 := bnd hr2; obtain ⟨x31, h_11, hr2⟩ := hr2
        refine AB.rw ?_
        refine wS (v := (.ptr 1 (Int.toNat x29))) (sv (d_ia rfl rfl (iaS rfl ti22 ti5 rfl h_11))) ?_
        refine wS (v := (eI .u8 x31)) (sv (d_load rfl (ldX (E := (eI .u8)) (y := x31) ti5 rfl rfl h_11))) ?_
        refine wS (v := (eI .u8 x31)) (sv (d_assign rfl)) ?_
        refine OpsW.nil ?_
        refine Ex.then_mk ?_
        replace hr2 := bnd hr2; obtain ⟨x35, h_12, hr2⟩ := hr2
        replace hr2 := bnd hr2; obtain ⟨x37, h_13, hr2⟩ := hr2
        refine AB.rw ?_
        refine wS (v := (.sl 0 0 l0_1.length 1 false)) (sv (d_move rfl)) ?_
        refine wS (v := (eI .u8 x31)) (sv (d_move rfl)) ?_
        refine wS (v := (eI .u8 x35)) (sv (d_ix rfl rfl (ixT ti9 h_12))) ?_
        refine wS (v := (.sl 2 0 1 1 false)) (h' := [some ⟨5, l0_1.map (eI .u8)⟩, some ⟨5, x27.map (eI .u8)⟩, some ⟨5, [x35].map (eI .u8)⟩]) (sv (d_buildS rfl (bldL1 (xs := [x35].map (eI .u8)) ti22 ti5 (Nat.le_of_ble_eq_true rfl) (Nat.le_of_ble_eq_true rfl) rfl rfl rfl rfl rfl rfl rfl))) ?_
        refine wS (v := (.sl 3 0 x37.length 1 false)) (h' := [none, some ⟨5, x27.map (eI .u8)⟩, some ⟨5, [x35].map (eI .u8)⟩, some ⟨5, x37.map (eI .u8)⟩]) (sv (d_append rfl rfl (appS (E := (eI .u8)) rfl ti22 ti5 ⟨rfl, rfl, Nat.le_of_ble_eq_true rfl⟩ rfl (srcS rfl rfl) h_13 rfl rfl))) ?_
        refine wS (v := (.sl 3 0 x37.length 1 false)) (sv (d_assign rfl)) ?_
        refine OpsW.nil ?_
        refine Ex.inBlock_mk ?_
        refine Ex.then_mk ?_
        refine AB.rw ?_
        refine wS (v := (eI .i64 (IntKind.i64.wrap (x29 + 1)))) (sv (d_bin rfl rfl (bin_add ..))) ?_
        refine wS (v := (eI .i64 (IntKind.i64.wrap (x29 + 1)))) (sv (d_move rfl)) ?_
        refine OpsW.nil ?_
        refine Ex.then_mk ?_
        exact ⟨IntKind.i64.wrap (x29 + 1), x37, hr2, (Ghost.rn [3, 1] rfl rfl (FLe.same rfl (FLe.same rfl (FLe.same rfl (FLe.same rfl FLe.nil)))) (HLe.live rfl (les_map (fun _ => rfl) _) (all_map (fun _ => rfl) _) (HLe.live rfl (les_map (fun _ => rfl) _) (all_map (fun _ => rfl) _) HLe.nil)) rfl)⟩
      · replace hr2 := iteF hr2 h10
        refine AB.exit ?_
        refine Ex.then_exit_mk ?_
        refine Ex.then_exit_mk ?_
        refine Ex.inBlock_same_mk ?_
        obtain rfl := Option.some.inj hr2
        refine Ex.then_mk ?_
        exact hG1 _ _ _ _ (Ghost.rn [0] rfl rfl (FLe.same rfl FLe.nil) (HLe.live rfl (les_map (fun _ => rfl) _) (all_map (fun _ => rfl) _) HLe.nil) rfl) (J1 l0_1 hr)
set_option maxRecDepth 20000 in
set_option maxHeartbeats 1000000 in
theorem ref27_Prefix_ok (N : Nat) (vs : ByteArray) (r : Bool) (hr : ref27_Prefix N vs = some r) :
    Vm.Fn Tryd.prog 23 [] [(eS vs)] (eB r) [] := by
  refine fn_ab Tryd.func23 rfl (by kernel_rfl) Tryd.ntmps23 (Nat.le_of_ble_eq_true rfl) rfl (fr := [(0, (eS vs))]) rfl ?_
  unfold ref27_Prefix at hr
  refine AB.seq ?_
  refine AB.rw ?_
  refine wS (v := (eB false)) (sv (d_assign rfl)) ?_
  refine OpsW.nil ?_
  refine Ex.then_mk ?_
  refine AB.seq_g fun K1 hK1 hG1 => ?_
  have J1 : ref27_Prefix_J1 N vs = some r → K1 (mkF 28 [(0, (eS vs))]) [] := by
    intro hr
    unfold ref27_Prefix_J1 at hr
    refine hK1 _ _ ?_
    refine AB.seq_g fun K2 hK2 hG2 => ?_
    have J2 : ∀ (x2 : Bool), ref27_Prefix_J2 N x2 = some r → K2 (mkF 28 [(2, (eB x2))]) [] := by
      intro x2 hr
      unfold ref27_Prefix_J2 at hr
      refine hK2 _ _ ?_
      refine AB.ret ?_
      obtain rfl := Option.some.inj hr
      exact done_ret (r1 := (eB x2)) (res1 Tryd.results23 (rvT rfl)) (Ghost.rn [] rfl rfl (FLe.same rfl FLe.nil) HLe.nil rfl)
    rcases Bool.eq_false_or_eq_true (decide (1 ≤ (vs.size : Int))) with h1 | h1
    · replace hr := iteT hr h1
      refine AB.rw ?_
      refine wS (v := (eS vs)) (sv (d_move rfl)) ?_
      refine wS (v := (eI .i64 (vs.size : Int))) (sv (d_len rfl (lenT ti9))) ?_
      refine wS (v := (eB (decide (1 ≤ (vs.size : Int))))) (sv (d_bin rfl rfl (bin_geq ..))) ?_
      refine wS (v := (eB (decide (1 ≤ (vs.size : Int))))) (sv (d_move rfl)) ?_
      refine wS (v := (eS vs)) (svG rfl rfl h1 (d_move rfl)) ?_
      refine wS (v := (eI .i64 (vs.size : Int))) (svG rfl rfl h1 (d_len rfl (lenT ti9))) ?_
      refine wS (v := (eB (decide ((vs.size : Int) ≤ 10)))) (svG rfl rfl h1 (d_bin rfl rfl (bin_leq ..))) ?_
      refine wS (v := (eB (decide ((vs.size : Int) ≤ 10)))) (sv (d_pickT rfl h1 rfl)) ?_
      refine wS (v := (eB (decide ((vs.size : Int) ≤ 10)))) (sv (d_assign rfl)) ?_
      refine OpsW.nil ?_
      refine Ex.then_mk ?_
      exact hG2 _ _ _ _ (Ghost.rn [] rfl rfl (FLe.same rfl FLe.nil) HLe.nil rfl) (J2 (decide ((vs.size : Int) ≤ 10)) hr)
    · replace hr := iteF hr h1
      refine AB.rw ?_
      refine wS (v := (eS vs)) (sv (d_move rfl)) ?_
      refine wS (v := (eI .i64 (vs.size : Int))) (sv (d_len rfl (lenT ti9))) ?_
      refine wS (v := (eB (decide (1 ≤ (vs.size : Int))))) (sv (d_bin rfl rfl (bin_geq ..))) ?_
      refine wS (v := (eB (decide (1 ≤ (vs.size : Int))))) (sv (d_move rfl)) ?_
      refine wS (svX rfl rfl h1) ?_
      refine wS (svX rfl rfl h1) ?_
      refine wS (svX rfl rfl h1) ?_
      refine wS (v := (eB false)) (sv (d_pickF rfl h1 rfl)) ?_
      refine wS (v := (eB false)) (sv (d_assign rfl)) ?_
      refine OpsW.nil ?_
      refine Ex.then_mk ?_
      exact hG2 _ _ _ _ (Ghost.rn [] rfl rfl (FLe.same rfl FLe.nil) HLe.nil rfl) (J2 false hr)
  refine AB.seq ?_
  refine AB.rw ?_
  refine wS (v := (eI .i64 0)) (sv (d_assign rfl)) ?_
  refine OpsW.nil ?_
  refine Ex.then_mk ?_
  replace hr := bnd hr; obtain ⟨res3, hL3, hr⟩ := hr
  refine AB.block ?_
  refine AB.loopN (fun m s h => ∃ (vi : Int), ref27_Prefix_L3 N vs m vi = some res3 ∧ Ghost 0 s h (mkF 28 [(0, (eS vs)), (3, (eI .i64 vi))]) []) (n := N) ⟨0, hL3, (Ghost.rn [] rfl rfl (FLe.same rfl (FLe.same rfl FLe.nil)) HLe.nil rfl)⟩ (by rintro s h ⟨_, h0, _⟩; simp [ref27_Prefix_L3] at h0) ?_
  rintro m3 s h ⟨vi, hr3, hg⟩
  refine AB.ghost hg ?_
  clear hg hL3
  rw [ref27_Prefix_L3] at hr3
  refine AB.seq ?_
  refine AB.seq ?_
  refine AB.rw ?_
  refine wS (v := (eI .i64 vi)) (sv (d_move rfl)) ?_
  refine wS (v := (eS vs)) (sv (d_move rfl)) ?_
  refine wS (v := (eI .i64 (vs.size : Int))) (sv (d_len rfl (lenT ti9))) ?_
  refine wS (v := (eB (decide (vi < (vs.size : Int))))) (sv (d_bin rfl rfl (bin_lss ..))) ?_
  refine OpsW.nil ?_
  refine Ex.then_mk ?_
  refine AB.cnd rfl (fun h2 => ?_) (fun h2 => ?_)
  · replace hr3 := iteT hr3 h2
    refine AB.skip ?_
    refine Ex.then_mk ?_
    refine AB.seq ?_
    refine AB.block ?_
    refine AB.seq_g fun K4 hK4 hG4 => ?_
    have J4 : ∀ (x19 : Bool), ref27_Prefix_J4 N vs vi (ref27_Prefix_L3 N vs m3) x19 = some res3 → K4 (mkF 28 [(0, (eS vs)), (3, (eI .i64 vi)), (19, (eB x19))]) [] := by
      intro x19 hr3
      unfold ref27_Prefix_J4 at hr3
      refine hK4 _ _ ?_
      refine AB.cnd rfl (fun h3 => ?_) (fun h3 => ?_)
      · replace hr3 := iteT hr3 h3
        refine AB.seq ?_
        refine AB.rw ?_
        refine wS (v := (eB false)) (sv (d_assign rfl)) ?_
        refine OpsW.nil ?_
        refine Ex.then_mk ?_
        refine AB.ret ?_
        refine Ex.inBlock_ret_mk ?_
        refine Ex.then_ret_mk ?_
        refine Ex.then_ret_mk ?_
        refine Ex.inBlock_ret_mk ?_
        refine Ex.then_ret_mk ?_
        obtain rfl := Option.some.inj hr3
        obtain rfl := Option.some.inj hr
        exact done_ret (r1 := (eB false)) (res1 Tryd.results23 (rvT rfl)) (Ghost.rn [] rfl rfl (FLe.same rfl FLe.nil) HLe.nil rfl)
      · replace hr3 := iteF hr3 h3
        refine AB.skip ?_
        refine Ex.inBlock_mk ?_
        refine Ex.then_mk ?_
        refine AB.rw ?_
        refine wS (v := (eI .i64 vi)) (sv (d_move rfl)) ?_
        refine wS (v := (eI .i64 (IntKind.i64.wrap (vi + 1)))) (sv (d_bin rfl rfl (bin_add ..))) ?_
        refine wS (v := (eI .i64 (IntKind.i64.wrap (vi + 1)))) (sv (d_assign rfl)) ?_
        refine OpsW.nil ?_
        refine Ex.then_mk ?_
        exact ⟨IntKind.i64.wrap (vi + 1), hr3, (Ghost.rn [] rfl rfl (FLe.same rfl (FLe.same rfl FLe.nil)) HLe.nil rfl)⟩
    replace hr3 := bnd hr3; obtain ⟨x12, h_4, hr3⟩ := hr3
    rcases Bool.eq_false_or_eq_true (decide (x12 < 97)) with h5 | h5
    · replace hr3 := iteT hr3 h5
      refine AB.rw ?_
      refine wS (v := (eS vs)) (sv (d_move rfl)) ?_
      refine wS (v := (eI .i64 vi)) (sv (d_move rfl)) ?_
      refine wS (v := (eI .u8 x12)) (sv (d_ix rfl rfl (ixT ti9 h_4))) ?_
      refine wS (v := (eB (decide (x12 < 97)))) (sv (d_bin rfl rfl (bin_lss ..))) ?_
      refine wS (v := (eB (decide (x12 < 97)))) (sv (d_move rfl)) ?_
      refine wS (svX rfl rfl h5) ?_
      refine wS (svX rfl rfl h5) ?_
      refine wS (svX rfl rfl h5) ?_
      refine wS (svX rfl rfl h5) ?_
      refine wS (v := (eB true)) (sv (d_pickT rfl h5 rfl)) ?_
      refine OpsW.nil ?_
      refine Ex.then_mk ?_
      exact hG4 _ _ _ _ (Ghost.rn [] rfl rfl (FLe.same rfl (FLe.same rfl (FLe.same rfl FLe.nil))) HLe.nil rfl) (J4 true hr3)
    · replace hr3 := iteF hr3 h5
      refine AB.rw ?_
      refine wS (v := (eS vs)) (sv (d_move rfl)) ?_
      refine wS (v := (eI .i64 vi)) (sv (d_move rfl)) ?_
      refine wS (v := (eI .u8 x12)) (sv (d_ix rfl rfl (ixT ti9 h_4))) ?_
      refine wS (v := (eB (decide (x12 < 97)))) (sv (d_bin rfl rfl (bin_lss ..))) ?_
      refine wS (v := (eB (decide (x12 < 97)))) (sv (d_move rfl)) ?_
      refine wS (v := (eS vs)) (svG rfl rfl h5 (d_move rfl)) ?_
      refine wS (v := (eI .i64 vi)) (svG rfl rfl h5 (d_move rfl)) ?_
      refine wS (v := (eI .u8 x12)) (svG rfl rfl h5 (d_ix rfl rfl (ixT ti9 h_4))) ?_
      refine wS (v := (eB (decide (122 < x12)))) (svG rfl rfl h5 (d_bin rfl rfl (bin_gtr ..))) ?_
      refine wS (v := (eB (decide (122 < x12)))) (sv (d_pickF rfl h5 rfl)) ?_
      refine OpsW.nil ?_
      refine Ex.then_mk ?_
      exact hG4 _ _ _ _ (Ghost.rn [] rfl rfl (FLe.same rfl (FLe.same rfl (FLe.same rfl FLe.nil))) HLe.nil rfl) (J4 (decide (122 < x12)) hr3)
  · replace hr3 := iteF hr3 h2
    refine AB.exit ?_
    refine Ex.then_exit_mk ?_
    refine Ex.then_exit_mk ?_
    refine Ex.inBlock_same_mk ?_
    obtain rfl := Option.some.inj hr3
    refine Ex.then_mk ?_
    exact hG1 _ _ _ _ (Ghost.rn [] rfl rfl (FLe.same rfl FLe.nil) HLe.nil rfl) (J1 hr)
set_option maxRecDepth 20000 in
set_option maxHeartbeats 1000000 in
theorem ref27_Convert_ok (N : Nat) (b : List Int) (r : (List Int)) (hr : ref27_Convert N b = some r) :
    Vm.Fn Tryd.prog 24 [] [(.row none 1 (b.map (eI .u8)))] (.sl 0 0 r.length 1 false) [some ⟨5, r.map (eI .u8)⟩] := by
  refine fn_ab Tryd.func24 rfl (by kernel_rfl) Tryd.ntmps24 (Nat.le_of_ble_eq_true rfl) rfl (fr := [(0, (.row none 1 (b.map (eI .u8))))]) rfl ?_
  unfold ref27_Convert at hr
  refine AB.seq ?_
  refine AB.rw ?_
  refine wS (v := (.row (some true) 1 [])) (sv (d_assign rfl)) ?_
  refine OpsW.nil ?_
  refine Ex.then_mk ?_
  refine AB.seq ?_
  refine AB.rw ?_
  refine wS (v := (.row (some true) 1 [])) (sv (d_assign rfl)) ?_
  refine OpsW.nil ?_
  refine Ex.then_mk ?_
  refine AB.seq_g fun K1 hK1 hG1 => ?_
  have J1 : ∀ (l0 : List Int), ref27_Convert_J1 N l0 = some r → K1 (mkF 46 [(3, (.sl 0 0 l0.length 1 false))]) [some ⟨5, l0.map (eI .u8)⟩] := by
    intro l0 hr
    unfold ref27_Convert_J1 at hr
    refine hK1 _ _ ?_
    refine AB.seq ?_
    refine AB.rw ?_
    refine wS (v := (.sl 0 0 l0.length 1 false)) (sv (d_move rfl)) ?_
    refine wS (v := (.sl 0 0 l0.length 1 false)) (sv (d_assign rfl)) ?_
    refine OpsW.nil ?_
    refine Ex.then_mk ?_
    refine AB.ret ?_
    obtain rfl := Option.some.inj hr
    exact done_ret (r1 := (.sl 0 0 l0.length 1 false)) (res1 Tryd.results24 (rvT rfl)) (Ghost.rn [0] rfl rfl (FLe.same rfl FLe.nil) (HLe.live rfl (les_map (fun _ => rfl) _) (all_map (fun _ => rfl) _) HLe.nil) rfl)
  refine AB.seq ?_
  refine AB.rw ?_
  refine wS (v := (eI .i64 0)) (sv (d_assign rfl)) ?_
  refine OpsW.nil ?_
  refine Ex.then_mk ?_
  replace hr := bnd hr; obtain ⟨res2, hL2, hr⟩ := hr
  refine AB.block ?_
  refine AB.loopN (fun m s h => ∃ (vat : Int) (l0_1 : List Int), ref27_Convert_L2 N b m vat l0_1 = some res2 ∧ Ghost 0 s h (mkF 46 [(0, (.row none 1 (b.map (eI .u8)))), (3, (.sl 0 0 l0_1.length 1 false)), (4, (eI .i64 vat))]) [some ⟨5, l0_1.map (eI .u8)⟩]) (n := N) ⟨0, [], hL2, (Ghost.trans (Ghost.virt (fr' := [(0, (.row none 1 (b.map (eI .u8)))), (3, (.sl 0 0 0 1 false)), (4, (eI .i64 0))]) (h1 := []) 5 (FLe.same rfl (FLe.le rfl (V.le_virt rfl) (FLe.same rfl FLe.nil))) HLv.nil) (Ghost.rn [0] rfl rfl (FLe.same rfl (FLe.le rfl (by first | exact V.le_refl _ _ | (simp only [len_set, len_cpy]; exact V.le_refl _ _)) (FLe.same rfl FLe.nil))) (HLe.live rfl V.les_nil rfl HLe.nil) rfl))⟩ (by rintro s h ⟨_, _, h0, _⟩; simp [ref27_Convert_L2] at h0) ?_
  rintro m2 s h ⟨vat, l0_1, hr2, hg⟩
  refine AB.ghost hg ?_
  clear hg hL2
  rw [ref27_Convert_L2] at hr2
  refine AB.seq ?_
  refine AB.seq ?_
  refine AB.rw ?_
  refine wS (v := (eI .i64 vat)) (sv (d_move rfl)) ?_
  refine wS (v := (.row none 1 (b.map (eI .u8)))) (sv (d_move rfl)) ?_
  refine wS (v := (eI .i64 (b.length : Int))) (sv (d_len rfl (lenR ti22))) ?_
  refine wS (v := (eI .i64 (IntKind.i64.wrap (8 * (b.length : Int))))) (sv (d_bin rfl rfl (bin_mul ..))) ?_
  refine wS (v := (eB (decide (vat < (IntKind.i64.wrap (8 * (b.length : Int))))))) (sv (d_bin rfl rfl (bin_lss ..))) ?_
  refine OpsW.nil ?_
  refine Ex.then_mk ?_
  refine AB.cnd rfl (fun h1 => ?_) (fun h1 => ?_)
  · replace hr2 := iteT hr2 h1
    refine AB.skip ?_
    refine Ex.then_mk ?_
    refine AB.seq_g fun K3 hK3 hG3 => ?_
    have J3 : ∀ (l0_2 : List Int), ref27_Convert_J3 N b vat (ref27_Convert_L2 N b m2) l0_2 = some res2 → K3 (mkF 46 [(0, (.row none 1 (b.map (eI .u8)))), (3, (.sl 0 0 l0_2.length 1 false)), (4, (eI .i64 vat))]) [some ⟨5, l0_2.map (eI .u8)⟩] := by
      intro l0_2 hr2
      unfold ref27_Convert_J3 at hr2
      refine hK3 _ _ ?_
      refine AB.rw ?_
      refine wS (v := (eI .i64 vat)) (sv (d_move rfl)) ?_
      refine wS (v := (eI .i64 (IntKind.i64.wrap (vat + 5)))) (sv (d_bin rfl rfl (bin_add ..))) ?_
      refine wS (v := (eI .i64 (IntKind.i64.wrap (vat + 5)))) (sv (d_assign rfl)) ?_
      refine OpsW.nil ?_
      refine Ex.then_mk ?_
      exact ⟨IntKind.i64.wrap (vat + 5), l0_2, hr2, (Ghost.rn [0] rfl rfl (FLe.same rfl (FLe.same rfl (FLe.same rfl FLe.nil))) (HLe.live rfl (les_map (fun _ => rfl) _) (all_map (fun _ => rfl) _) HLe.nil) rfl)⟩
    refine AB.block ?_
    refine AB.seq ?_
    refine AB.rw ?_
    refine wS (v := (eI .u8 0)) (sv (d_assign rfl)) ?_
    refine OpsW.nil ?_
    refine Ex.then_mk ?_
    refine AB.seq_g fun K4 hK4 hG4 => ?_
    have J4 : ∀ (d : Int), ref27_Convert_J4 N b vat l0_1 (ref27_Convert_L2 N b m2) d = some res2 → K4 (mkF 46 [(0, (.row none 1 (b.map (eI .u8)))), (3, (.sl 0 0 l0_1.length 1 false)), (4, (eI .i64 vat)), (5, (eI .u8 d))]) [some ⟨5, l0_1.map (eI .u8)⟩] := by
      intro d hr2
      unfold ref27_Convert_J4 at hr2
      refine hK4 _ _ ?_
      replace hr2 := bnd hr2; obtain ⟨x44, h_2, hr2⟩ := hr2
      refine AB.rw ?_
      refine wS (v := (.sl 0 0 l0_1.length 1 false)) (sv (d_move rfl)) ?_
      refine wS (v := (eI .u8 d)) (sv (d_move rfl)) ?_
      refine wS (v := (.sl 1 0 1 1 false)) (h' := [some ⟨5, l0_1.map (eI .u8)⟩, some ⟨5, [d].map (eI .u8)⟩]) (sv (d_buildS rfl (bldL1 (xs := [d].map (eI .u8)) ti22 ti5 (Nat.le_of_ble_eq_true rfl) (Nat.le_of_ble_eq_true rfl) rfl rfl rfl rfl rfl rfl rfl))) ?_
      refine wS (v := (.sl 2 0 x44.length 1 false)) (h' := [none, some ⟨5, [d].map (eI .u8)⟩, some ⟨5, x44.map (eI .u8)⟩]) (sv (d_append rfl rfl (appS (E := (eI .u8)) rfl ti22 ti5 ⟨rfl, rfl, Nat.le_of_ble_eq_true rfl⟩ rfl (srcS rfl rfl) h_2 rfl rfl))) ?_
      refine wS (v := (.sl 2 0 x44.length 1 false)) (sv (d_assign rfl)) ?_
      refine OpsW.nil ?_
      refine Ex.inBlock_mk ?_
      refine Ex.then_mk ?_
      exact hG3 _ _ _ _ (Ghost.rn [2] rfl rfl (FLe.same rfl (FLe.same rfl (FLe.same rfl FLe.nil))) (HLe.live rfl (les_map (fun _ => rfl) _) (all_map (fun _ => rfl) _) HLe.nil) rfl) (J3 x44 hr2)
    refine AB.seq ?_
    refine AB.rw ?_
    refine wS (v := (eI .i64 vat)) (sv (d_move rfl)) ?_
    refine wS (v := (eI .i64 vat)) (sv (d_assign rfl)) ?_
    refine OpsW.nil ?_
    refine Ex.then_mk ?_
    replace hr2 := bnd hr2; obtain ⟨res5, hL5, hr2⟩ := hr2
    refine AB.block ?_
    refine AB.loopN (fun m s h => ∃ (d_1 : Int) (vi : Int), ref27_Convert_L5 N b vat l0_1 m d_1 vi = some res5 ∧ Ghost 0 s h (mkF 46 [(0, (.row none 1 (b.map (eI .u8)))), (3, (.sl 0 0 l0_1.length 1 false)), (4, (eI .i64 vat)), (5, (eI .u8 d_1)), (6, (eI .i64 vi))]) [some ⟨5, l0_1.map (eI .u8)⟩]) (n := N) ⟨0, vat, hL5, (Ghost.rn [0] rfl rfl (FLe.same rfl (FLe.same rfl (FLe.same rfl (FLe.same rfl (FLe.same rfl FLe.nil))))) (HLe.live rfl (les_map (fun _ => rfl) _) (all_map (fun _ => rfl) _) HLe.nil) rfl)⟩ (by rintro s h ⟨_, _, h0, _⟩; simp [ref27_Convert_L5] at h0) ?_
    rintro m5 s h ⟨d_1, vi, hr5, hg⟩
    refine AB.ghost hg ?_
    clear hg hL5
    rw [ref27_Convert_L5] at hr5
    refine AB.seq ?_
    refine AB.seq ?_
    refine AB.rw ?_
    refine wS (v := (eI .i64 vi)) (sv (d_move rfl)) ?_
    refine wS (v := (eI .i64 vat)) (sv (d_move rfl)) ?_
    refine wS (v := (eI .i64 (IntKind.i64.wrap (vat + 5)))) (sv (d_bin rfl rfl (bin_add ..))) ?_
    refine wS (v := (eB (decide (vi < (IntKind.i64.wrap (vat + 5)))))) (sv (d_bin rfl rfl (bin_lss ..))) ?_
    refine OpsW.nil ?_
    refine Ex.then_mk ?_
    refine AB.cnd rfl (fun h3 => ?_) (fun h3 => ?_)
    · replace hr5 := iteT hr5 h3
      refine AB.skip ?_
      refine Ex.then_mk ?_
      refine AB.seq_g fun K6 hK6 hG6 => ?_
      have J6 : ∀ (d_2 : Int), ref27_Convert_J6 N b vat l0_1 vi (ref27_Convert_L5 N b vat l0_1 m5) d_2 = some res5 → K6 (mkF 46 [(0, (.row none 1 (b.map (eI .u8)))), (3, (.sl 0 0 l0_1.length 1 false)), (4, (eI .i64 vat)), (5, (eI .u8 d_2)), (6, (eI .i64 vi))]) [some ⟨5, l0_1.map (eI .u8)⟩] := by
        intro d_2 hr5
        unfold ref27_Convert_J6 at hr5
        refine hK6 _ _ ?_
        refine AB.rw ?_
        refine wS (v := (eI .i64 vi)) (sv (d_move rfl)) ?_
        refine wS (v := (eI .i64 (IntKind.i64.wrap (vi + 1)))) (sv (d_bin rfl rfl (bin_add ..))) ?_
        refine wS (v := (eI .i64 (IntKind.i64.wrap (vi + 1)))) (sv (d_assign rfl)) ?_
        refine OpsW.nil ?_
        refine Ex.then_mk ?_
        exact ⟨d_2, IntKind.i64.wrap (vi + 1), hr5, (Ghost.rn [0] rfl rfl (FLe.same rfl (FLe.same rfl (FLe.same rfl (FLe.same rfl (FLe.same rfl FLe.nil))))) (HLe.live rfl (les_map (fun _ => rfl) _) (all_map (fun _ => rfl) _) HLe.nil) rfl)⟩
      refine AB.block ?_
      refine AB.seq ?_
      replace hr5 := bnd hr5; obtain ⟨x22, h_4, hr5⟩ := hr5
      refine AB.rw ?_
      refine wS (v := (eI .u8 d_1)) (sv (d_move rfl)) ?_
      refine wS (v := (eI .u8 x22)) (sv (d_bin rfl rfl (bin_shl' _ _ _ _ h_4))) ?_
      refine wS (v := (eI .u8 x22)) (sv (d_assign rfl)) ?_
      refine OpsW.nil ?_
      refine Ex.then_mk ?_
      refine AB.seq ?_
      refine AB.rw ?_
      refine wS (v := (eI .i64 vi)) (sv (d_move rfl)) ?_
      refine wS (v := (.row none 1 (b.map (eI .u8)))) (sv (d_move rfl)) ?_
      refine wS (v := (eI .i64 (b.length : Int))) (sv (d_len rfl (lenR ti22))) ?_
      refine wS (v := (eI .i64 (IntKind.i64.wrap (8 * (b.length : Int))))) (sv (d_bin rfl rfl (bin_mul ..))) ?_
      refine wS (v := (eB (decide (vi < (IntKind.i64.wrap (8 * (b.length : Int))))))) (sv (d_bin rfl rfl (bin_lss ..))) ?_
      refine OpsW.nil ?_
      refine Ex.then_mk ?_
      refine AB.cnd rfl (fun h5 => ?_) (fun h5 => ?_)
      · replace hr5 := iteT hr5 h5
        replace hr5 := bnd hr5; obtain ⟨x32, h_6, hr5⟩ := hr5
        replace hr5 := bnd hr5; obtain ⟨x38, h_7, hr5⟩ := hr5
        refine AB.rw ?_
        refine wS (v := (eI .u8 x22)) (sv (d_move rfl)) ?_
        refine wS (v := (.row none 1 (b.map (eI .u8)))) (sv (d_move rfl)) ?_
        refine wS (v := (eI .i64 vi)) (sv (d_move rfl)) ?_
        refine wS (v := (eI .i64 (IntKind.i64.wrap (Int.tdiv vi 8)))) (sv (d_bin rfl rfl (bin_quo' _ _ _ _ rfl))) ?_
        refine wS (sv (d_ia rfl rfl (iaR ti22 ti5 h_6))) ?_
        refine wS (v := (eI .u8 x32)) (sv (d_load rfl (ldR h_6 (part1 ti5 rfl rfl)))) ?_
        refine wS (v := (eI .i64 vi)) (sv (d_move rfl)) ?_
        refine wS (v := (eI .i64 (Int.tmod vi 8))) (sv (d_bin rfl rfl (bin_rem' _ _ _ _ rfl))) ?_
        refine wS (v := (eI .i64 (IntKind.i64.wrap (7 - (Int.tmod vi 8))))) (sv (d_bin rfl rfl (bin_sub ..))) ?_
        refine wS (v := (eI .u64 (IntKind.u64.wrap (IntKind.i64.wrap (7 - (Int.tmod vi 8)))))) (sv (d_conv rfl (conv_int _ ⟨_, ti3⟩ ti43 rfl))) ?_
        refine wS (v := (eI .u8 x38)) (sv (d_bin rfl rfl (bin_shr' _ _ _ _ h_7))) ?_
        refine wS (v := (eI .u8 (bits .and .u8 x38 1))) (sv (d_bin rfl rfl (bin_and ..))) ?_
        refine wS (v := (eI .u8 (bits .or .u8 x22 (bits .and .u8 x38 1)))) (sv (d_bin rfl rfl (bin_or ..))) ?_
        refine wS (v := (eI .u8 (bits .or .u8 x22 (bits .and .u8 x38 1)))) (sv (d_assign rfl)) ?_
        refine OpsW.nil ?_
        refine Ex.inBlock_mk ?_
        refine Ex.then_mk ?_
        exact hG6 _ _ _ _ (Ghost.rn [0] rfl rfl (FLe.same rfl (FLe.same rfl (FLe.same rfl (FLe.same rfl (FLe.same rfl FLe.nil))))) (HLe.live rfl (les_map (fun _ => rfl) _) (all_map (fun _ => rfl) _) HLe.nil) rfl) (J6 (bits .or .u8 x22 (bits .and .u8 x38 1)) hr5)
      · replace hr5 := iteF hr5 h5
        refine AB.skip ?_
        refine Ex.inBlock_mk ?_
        refine Ex.then_mk ?_
        exact hG6 _ _ _ _ (Ghost.rn [0] rfl rfl (FLe.same rfl (FLe.same rfl (FLe.same rfl (FLe.same rfl (FLe.same rfl FLe.nil))))) (HLe.live rfl (les_map (fun _ => rfl) _) (all_map (fun _ => rfl) _) HLe.nil) rfl) (J6 x22 hr5)
    · replace hr5 := iteF hr5 h3
      refine AB.exit ?_
      refine Ex.then_exit_mk ?_
      refine Ex.then_exit_mk ?_
      refine Ex.inBlock_same_mk ?_
      obtain rfl := Option.some.inj hr5
      refine Ex.then_mk ?_
      exact hG4 _ _ _ _ (Ghost.rn [0] rfl rfl (FLe.same rfl (FLe.same rfl (FLe.same rfl (FLe.same rfl FLe.nil)))) (HLe.live rfl (les_map (fun _ => rfl) _) (all_map (fun _ => rfl) _) HLe.nil) rfl) (J4 d_1 hr2)
  · replace hr2 := iteF hr2 h1
    refine AB.exit ?_
    refine Ex.then_exit_mk ?_
    refine Ex.then_exit_mk ?_
    refine Ex.inBlock_same_mk ?_
    obtain rfl := Option.some.inj hr2
    refine Ex.then_mk ?_
    exact hG1 _ _ _ _ (Ghost.rn [0] rfl rfl (FLe.same rfl FLe.nil) (HLe.live rfl (les_map (fun _ => rfl) _) (all_map (fun _ => rfl) _) HLe.nil) rfl) (J1 l0_1 hr)
set_option maxRecDepth 20000 in
set_option maxHeartbeats 1000000 in
theorem ref27_Encode_ok (N : Nat) (vprefix : ByteArray) (b : List Int) (r : ByteArray × Int) (hr : ref27_Encode N vprefix b = some r) :
    Vm.Fn Tryd.prog 13 [] [(eS vprefix), (.row none 1 (b.map (eI .u8)))] (.tup [(eS r.1), (eI .i64 r.2)]) [] := by
  refine fn_ab Tryd.func13 rfl (by kernel_rfl) Tryd.ntmps13 (Nat.le_of_ble_eq_true rfl) rfl (fr := [(0, (eS vprefix)), (1, (.row none 1 (b.map (eI .u8))))]) rfl ?_
  unfold ref27_Encode at hr
  refine AB.seq ?_
  refine AB.rw ?_
  refine wS (v := (eS .empty)) (sv (d_assign rfl)) ?_
  refine wS (v := (eI .i64 0)) (sv (d_assign rfl)) ?_
  refine OpsW.nil ?_
  refine Ex.then_mk ?_
  refine AB.seq ?_
  refine AB.seq ?_
  replace hr := bnd hr; obtain ⟨x11, h_1, hr⟩ := hr
  refine AB.rw ?_
  refine wS (v := (eS vprefix)) (sv (d_move rfl)) ?_
  refine wC (v := (eB x11)) (h' := []) rfl (Vm.Fn.pure (ref27_Prefix_ok N vprefix x11 h_1) rfl rfl) ?_
  refine wS (v := (eB (!x11))) (sv (d_un rfl (un_not _ _))) ?_
  refine OpsW.nil ?_
  refine Ex.then_mk ?_
  refine AB.cnd rfl (fun h2 => ?_) (fun h2 => ?_)
  · replace hr := iteT hr h2
    refine AB.seq ?_
    refine AB.rw ?_
    refine wS (v := (eS .empty)) (sv (d_assign rfl)) ?_
    refine wS (v := (eI .i64 270)) (sv (d_assign rfl)) ?_
    refine OpsW.nil ?_
    refine Ex.then_mk ?_
    refine AB.ret ?_
    refine Ex.then_ret_mk ?_
    obtain rfl := Option.some.inj hr
    exact done_ret (r1 := (.tup [(eS .empty), (eI .i64 270)])) (res2 Tryd.results13 (rvT rfl) (rvT rfl)) (Ghost.rn [] rfl rfl (FLe.same rfl FLe.nil) HLe.nil rfl)
  · replace hr := iteF hr h2
    refine AB.skip ?_
    refine Ex.then_mk ?_
    refine AB.seq ?_
    refine AB.seq ?_
    refine AB.rw ?_
    refine wS (v := (.row none 1 (b.map (eI .u8)))) (sv (d_move rfl)) ?_
    refine wS (v := (eI .i64 (b.length : Int))) (sv (d_len rfl (lenR ti22))) ?_
    refine wS (v := (eB (decide (100 < (b.length : Int))))) (sv (d_bin rfl rfl (bin_gtr ..))) ?_
    refine OpsW.nil ?_
    refine Ex.then_mk ?_
    refine AB.cnd rfl (fun h3 => ?_) (fun h3 => ?_)
    · replace hr := iteT hr h3
      refine AB.seq ?_
      refine AB.rw ?_
      refine wS (v := (eS .empty)) (sv (d_assign rfl)) ?_
      refine wS (v := (eI .i64 4)) (sv (d_assign rfl)) ?_
      refine OpsW.nil ?_
      refine Ex.then_mk ?_
      refine AB.ret ?_
      refine Ex.then_ret_mk ?_
      obtain rfl := Option.some.inj hr
      exact done_ret (r1 := (.tup [(eS .empty), (eI .i64 4)])) (res2 Tryd.results13 (rvT rfl) (rvT rfl)) (Ghost.rn [] rfl rfl (FLe.same rfl FLe.nil) HLe.nil rfl)
    · replace hr := iteF hr h3
      refine AB.skip ?_
      refine Ex.then_mk ?_
      refine AB.seq ?_
      replace hr := bnd hr; obtain ⟨x17, h_4, hr⟩ := hr
      refine AB.rw ?_
      refine wS (v := (.row none 1 (b.map (eI .u8)))) (sv (d_move rfl)) ?_
      refine wC (v := (.sl 0 0 x17.length 1 false)) (h' := [some ⟨5, x17.map (eI .u8)⟩]) rfl (Vm.Fn.lendB (ref27_Convert_ok N b x17 h_4) [] (by decide) rfl Lend.nil rfl rfl (by simp only [lent, lendSet, lendSet_nil, rnH, Blk.rn, V.rns, V.rn, sg, List.map_cons, List.map_nil, Option.map_some, Option.map_none, List.drop_succ_cons, List.drop_zero, List.drop_nil, List.set_cons_zero, List.set_cons_succ, List.cons_append, List.nil_append, List.append_nil, rns_eI, rns_eB, rns_eS, rns_eL, List.getElem?_cons_zero, List.getElem?_cons_succ, List.getElem?_nil, List.length_cons, List.length_nil, Nat.reduceAdd, Nat.reduceSub, Nat.add_zero, Nat.zero_add, Nat.sub_self, Nat.sub_zero])) ?_
      refine wS (v := (.sl 0 0 x17.length 1 false)) (sv (d_assign rfl)) ?_
      refine OpsW.nil ?_
      refine Ex.then_mk ?_
      refine AB.seq ?_
      replace hr := bnd hr; obtain ⟨x20, h_5, hr⟩ := hr
      replace hr := bnd hr; obtain ⟨q, h_6, hr⟩ := hr
      refine AB.rw ?_
      refine wS (v := (eS vprefix)) (sv (d_move rfl)) ?_
      refine wS (v := (.sl 0 0 x17.length 1 false)) (sv (d_move rfl)) ?_
      refine wC (v := (.agg (x20.map (eI .u8)))) (h' := [some ⟨5, x17.map (eI .u8)⟩]) rfl (Vm.Fn.lendR (ref27_Checksum_ok N vprefix x17 x20 h_5) [] [0] (by decide) rfl (by decide) Lend.nil (Brw.same rfl (Brw.row (exp_slT rfl rfl (fun _ => rfl)) Brw.nil)) (by simp [V.rf, V.rfs, rfs_eI, rfs_eB]) rfB.nil (by simp only [V.rn, V.rns, rns_eI, rns_eB]) (by simp only [lent, lendSet, lendSet_nil, rnH, Blk.rn, V.rns, V.rn, sg, List.map_cons, List.map_nil, Option.map_some, Option.map_none, List.drop_succ_cons, List.drop_zero, List.drop_nil, List.set_cons_zero, List.set_cons_succ, List.cons_append, List.nil_append, List.append_nil, rns_eI, rns_eB, rns_eS, rns_eL, List.getElem?_cons_zero, List.getElem?_cons_succ, List.getElem?_nil, List.length_cons, List.length_nil, Nat.reduceAdd, Nat.reduceSub, Nat.add_zero, Nat.zero_add, Nat.sub_self, Nat.sub_zero])) ?_
      refine wS (v := (.ptr 1 0)) (h' := [some ⟨5, x17.map (eI .u8)⟩, some ⟨24, (List.replicate 6 0).map (eI .u8)⟩]) (sv (d_alloc ti24 rfl rfl rfl)) ?_
      refine wN (h' := [some ⟨5, x17.map (eI .u8)⟩, some ⟨24, x20.map (eI .u8)⟩]) (sv (d_store rfl rfl (stA (E := (eI .u8)) (l := List.replicate 6 0) ti24 rfl rfl (fun _ => rfl) rfl (arr_len h_6) rfl))) ?_
      refine OpsW.nil ?_
      refine Ex.then_mk ?_
      refine AB.seq ?_
      replace hr := bnd hr; obtain ⟨x23, h_7, hr⟩ := hr
      refine AB.rw ?_
      refine wS (v := (.sl 0 0 x17.length 1 false)) (sv (d_move rfl)) ?_
      refine wS (v := (.sl 1 0 6 1 false)) (sv (d_slice rfl rfl rfl (slA (E := (eI .u8)) (l := x20) ti24 ti5 rfl rfl rfl (arr_len h_6) ⟨Nat.le_of_ble_eq_true rfl, Nat.le_of_ble_eq_true rfl⟩))) ?_
      refine wS (v := (.sl 2 0 x23.length 1 false)) (h' := [none, some ⟨24, x20.map (eI .u8)⟩, some ⟨5, x23.map (eI .u8)⟩]) (sv (d_append rfl rfl (appS (E := (eI .u8)) rfl ti22 ti5 ⟨rfl, rfl, Nat.le_of_ble_eq_true rfl⟩ rfl (srcS (arr_len h_6) rfl) h_7 rfl rfl))) ?_
      refine wS (v := (.sl 2 0 x23.length 1 false)) (sv (d_assign rfl)) ?_
      refine OpsW.nil ?_
      refine Ex.then_mk ?_
      refine AB.seq ?_
      replace hr := bnd hr; obtain ⟨x25, h_8, hr⟩ := hr
      refine AB.rw ?_
      refine wS (v := (eS vprefix)) (sv (d_move rfl)) ?_
      refine wS (v := (eS x25)) (sv (d_bin rfl rfl (bin_cat _ _ _ h_8))) ?_
      refine wS (v := (eS x25)) (sv (d_assign rfl)) ?_
      refine OpsW.nil ?_
      refine Ex.then_mk ?_
      refine AB.seq_g fun K1 hK1 hG1 => ?_
      have J1 : ∀ (vs : ByteArray), ref27_Encode_J1 N vs = some r → K1 (mkF 45 [(8, (eS vs))]) [] := by
        intro vs hr
        unfold ref27_Encode_J1 at hr
        refine hK1 _ _ ?_
        refine AB.seq ?_
        refine AB.rw ?_
        refine wS (v := (eS vs)) (sv (d_move rfl)) ?_
        refine wS (v := (eS vs)) (sv (d_assign rfl)) ?_
        refine wS (v := (eI .i64 0)) (sv (d_assign rfl)) ?_
        refine OpsW.nil ?_
        refine Ex.then_mk ?_
        refine AB.ret ?_
        obtain rfl := Option.some.inj hr
        exact done_ret (r1 := (.tup [(eS vs), (eI .i64 0)])) (res2 Tryd.results13 (rvT rfl) (rvT rfl)) (Ghost.rn [] rfl rfl (FLe.same rfl FLe.nil) HLe.nil rfl)
      refine AB.seq ?_
      refine AB.rw ?_
      refine wS (v := (eI .i64 0)) (sv (d_assign rfl)) ?_
      refine OpsW.nil ?_
      refine Ex.then_mk ?_
      replace hr := bnd hr; obtain ⟨res2, hL2, hr⟩ := hr
      refine AB.block ?_
      refine AB.loopN (fun m s h => ∃ (vs_1 : ByteArray) (vi : Int), ref27_Encode_L2 N x23 m vs_1 vi = some res2 ∧ Ghost 0 s h (mkF 45 [(6, (.sl 0 0 x23.length 1 false)), (8, (eS vs_1)), (9, (eI .i64 vi))]) [some ⟨5, x23.map (eI .u8)⟩]) (n := N) ⟨x25, 0, hL2, (Ghost.rn [2] rfl rfl (FLe.same rfl (FLe.same rfl (FLe.same rfl FLe.nil))) (HLe.live rfl (les_map (fun _ => rfl) _) (all_map (fun _ => rfl) _) HLe.nil) rfl)⟩ (by rintro s h ⟨_, _, h0, _⟩; simp [ref27_Encode_L2] at h0) ?_
      rintro m2 s h ⟨vs_1, vi, hr2, hg⟩
      refine AB.ghost hg ?_
      clear hg hL2
      rw [ref27_Encode_L2] at hr2
      refine AB.seq ?_
      refine AB.seq ?_
      refine AB.rw ?_
      refine wS (v := (eI .i64 vi)) (sv (d_move rfl)) ?_
      refine wS (v := (.sl 0 0 x23.length 1 false)) (sv (d_move rfl)) ?_
      refine wS (v := (eI .i64 (x23.length : Int))) (sv (d_len rfl (lenS ti22))) ?_
      refine wS (v := (eB (decide (vi < (x23.length : Int))))) (sv (d_bin rfl rfl (bin_lss ..))) ?_
      refine OpsW.nil ?_
      refine Ex.then_mk ?_
      refine AB.cnd rfl (fun h9 => ?_) (fun h9 => ?_)
      · replace hr2 := iteT hr2 h9
        refine AB.skip ?_
        refine Ex.then_mk ?_
        refine AB.seq ?_
        refine AB.block ?_
        replace hr2 := bnd hr2; obtain ⟨x35, h_10, hr2⟩ := hr2
        replace hr2 := bnd hr2; obtain ⟨x42, h_11, hr2⟩ := hr2
        replace hr2 := bnd hr2; obtain ⟨x43, h_12, hr2⟩ := hr2
        refine AB.rg E0 (fun _ => by show drawOk (fun _ => false) _ = true; decide +kernel) ?_
        refine tS (v := (eS vs_1)) (sv (d_move rfl)) ?_
        refine tS (v := (.sl 0 0 x23.length 1 false)) (sv (d_move rfl)) ?_
        refine tS (v := (eI .i64 vi)) (sv (d_move rfl)) ?_
        refine tS (v := (.ptr 0 (Int.toNat vi))) (sv (d_ia rfl rfl (iaS rfl ti22 ti5 rfl h_10))) ?_
        refine tS (v := (eI .u8 x35)) (sv (d_load rfl (ldX (E := (eI .u8)) (y := x35) ti5 rfl rfl h_10))) ?_
        refine tS (v := (.sl 0 0 x23.length 1 false)) (sv (d_move rfl)) ?_
        refine tS (v := (eI .i64 vi)) (sv (d_move rfl)) ?_
        refine tS (v := (.ptr 0 (Int.toNat vi))) (sv (d_ia rfl rfl (iaS rfl ti22 ti5 rfl h_10))) ?_
        refine tS (v := (eI .u8 x35)) (sv (d_load rfl (ldX (E := (eI .u8)) (y := x35) ti5 rfl rfl h_10))) ?_
        refine tS (v := (eI .u8 (IntKind.u8.wrap (x35 + 1)))) (sv (d_bin rfl rfl (bin_add ..))) ?_
        refine tS (v := (eS x42)) (sv (d_slice rfl rfl rfl (slT ti9 rfl rfl h_11))) ?_
        refine tS (v := (eS x43)) (sv (d_bin rfl rfl (bin_cat _ _ _ h_12))) ?_
        refine tS (v := (eS x43)) (sv (d_assign rfl)) ?_
        refine OpsTo.nil ?_
        refine Ex.inBlock_mk ?_
        refine Ex.then_mk ?_
        refine AB.rw ?_
        refine wS (v := (eI .i64 vi)) (sv (d_move rfl)) ?_
        refine wS (v := (eI .i64 (IntKind.i64.wrap (vi + 1)))) (sv (d_bin rfl rfl (bin_add ..))) ?_
        refine wS (v := (eI .i64 (IntKind.i64.wrap (vi + 1)))) (sv (d_assign rfl)) ?_
        refine OpsW.nil ?_
        refine Ex.then_mk ?_
        exact ⟨x43, IntKind.i64.wrap (vi + 1), hr2, (Ghost.rn [0] rfl rfl (FLe.same rfl (FLe.same rfl (FLe.same rfl FLe.nil))) (HLe.live rfl (les_map (fun _ => rfl) _) (all_map (fun _ => rfl) _) HLe.nil) rfl)⟩
      · replace hr2 := iteF hr2 h9
        refine AB.exit ?_
        refine Ex.then_exit_mk ?_
        refine Ex.then_exit_mk ?_
        refine Ex.inBlock_same_mk ?_
        obtain rfl := Option.some.inj hr2
        refine Ex.then_mk ?_
        exact hG1 _ _ _ _ (Ghost.rn [] rfl rfl (FLe.same rfl FLe.nil) HLe.nil rfl) (J1 vs_1 hr)
set_option maxRecDepth 20000 in
set_option maxHeartbeats 1000000 in
theorem law27_AddressEncodes_ok (N : Nat) (vs : ByteArray) (vn : Int) (b : List Int) (r : Bool) (hr : law27_AddressEncodes N vs vn b = some r) :
    Vm.Fn Tryd.prog 4 [] [(eS vs), (eI .i64 vn), (.row none 1 (b.map (eI .u8)))] (eB r) [] := by
  refine fn_ab Tryd.func4 rfl (by kernel_rfl) Tryd.ntmps4 (Nat.le_of_ble_eq_true rfl) rfl (fr := [(0, (eS vs)), (1, (eI .i64 vn)), (2, (.row none 1 (b.map (eI .u8))))]) rfl ?_
  unfold law27_AddressEncodes at hr
  refine AB.seq ?_
  refine AB.rw ?_
  refine wS (v := (eB false)) (sv (d_assign rfl)) ?_
  refine OpsW.nil ?_
  refine Ex.then_mk ?_
  refine AB.seq ?_
  refine AB.seq ?_
  replace hr := bnd hr; obtain ⟨x13, h_1, hr⟩ := hr
  refine AB.rw ?_
  refine wC (v := (eB x13)) (h' := []) rfl (Vm.Fn.pure (law27_sane_ok N x13 h_1) rfl rfl) ?_
  refine wS (v := (eB (!x13))) (sv (d_un rfl (un_not _ _))) ?_
  refine OpsW.nil ?_
  refine Ex.then_mk ?_
  refine AB.cnd rfl (fun h2 => ?_) (fun h2 => ?_)
  · replace hr := iteT hr h2
    refine AB.seq ?_
    refine AB.rw ?_
    refine wS (v := (eB false)) (sv (d_assign rfl)) ?_
    refine OpsW.nil ?_
    refine Ex.then_mk ?_
    refine AB.ret ?_
    refine Ex.then_ret_mk ?_
    obtain rfl := Option.some.inj hr
    exact done_ret (r1 := (eB false)) (res1 Tryd.results4 (rvT rfl)) (Ghost.rn [] rfl rfl (FLe.same rfl FLe.nil) HLe.nil rfl)
  · replace hr := iteF hr h2
    refine AB.skip ?_
    refine Ex.then_mk ?_
    refine AB.seq ?_
    refine AB.seq_g fun K1 hK1 hG1 => ?_
    have J1 : ∀ (x22 : Bool), law27_AddressEncodes_J1 N vs vn b x22 = some r → K1 (mkF 53 [(0, (eS vs)), (1, (eI .i64 vn)), (2, (.row none 1 (b.map (eI .u8)))), (22, (eB x22))]) [] := by
      intro x22 hr
      unfold law27_AddressEncodes_J1 at hr
      refine hK1 _ _ ?_
      refine AB.cnd rfl (fun h3 => ?_) (fun h3 => ?_)
      · replace hr := iteT hr h3
        refine AB.seq ?_
        refine AB.rw ?_
        refine wS (v := (eB true)) (sv (d_assign rfl)) ?_
        refine OpsW.nil ?_
        refine Ex.then_mk ?_
        refine AB.ret ?_
        refine Ex.then_ret_mk ?_
        obtain rfl := Option.some.inj hr
        exact done_ret (r1 := (eB true)) (res1 Tryd.results4 (rvT rfl)) (Ghost.rn [] rfl rfl (FLe.same rfl FLe.nil) HLe.nil rfl)
      · replace hr := iteF hr h3
        refine AB.skip ?_
        refine Ex.then_mk ?_
        refine AB.seq_g fun K2 hK2 hG2 => ?_
        have J2 : law27_AddressEncodes_J2 N = some r → K2 (mkF 53 []) [] := by
          intro hr
          unfold law27_AddressEncodes_J2 at hr
          refine hK2 _ _ ?_
          refine AB.seq ?_
          refine AB.rw ?_
          refine wS (v := (eB true)) (sv (d_assign rfl)) ?_
          refine OpsW.nil ?_
          refine Ex.then_mk ?_
          refine AB.ret ?_
          obtain rfl := Option.some.inj hr
          exact done_ret (r1 := (eB true)) (res1 Tryd.results4 (rvT rfl)) (Ghost.rn [] rfl rfl (FLe.same rfl FLe.nil) HLe.nil rfl)
        refine AB.seq ?_
        replace hr := bnd hr; obtain ⟨x25, h_4, hr⟩ := hr
        refine AB.rw ?_
        refine wS (v := (eS vs)) (sv (d_move rfl)) ?_
        refine wS (v := (eI .i64 vn)) (sv (d_move rfl)) ?_
        refine wC (v := (eS x25)) (h' := []) rfl (Vm.Fn.pure (law27_prefix_ok N vn x25 h_4) rfl rfl) ?_
        refine wS (v := (.sl 0 0 2 1 false)) (h' := [some ⟨9, [vs, x25].map eS⟩]) (sv (d_buildS rfl (bldL1 (xs := [vs, x25].map eS) ti28 ti9 (Nat.le_of_ble_eq_true rfl) (Nat.le_of_ble_eq_true rfl) rfl rfl rfl rfl rfl rfl rfl))) ?_
        refine wS (v := (eI .i64 (2 : Int))) (sv (d_len rfl (lenS ti28))) ?_
        refine wS (v := (eI .i64 0)) (sv (d_move rfl)) ?_
        refine OpsW.nil ?_
        refine Ex.then_mk ?_
        replace hr := bnd hr; obtain ⟨res3, hL3, hr⟩ := hr
        refine AB.block ?_
        refine AB.loopN (fun m s h => ∃ (x28 : Int), law27_AddressEncodes_L3 N vs b x25 m x28 = some res3 ∧ Ghost 0 s h (mkF 53 [(2, (.row none 1 (b.map (eI .u8)))), (26, (.sl 0 0 ([vs, x25].length) 1 false)), (27, (eI .i64 (2 : Int))), (28, (eI .i64 x28))]) [some ⟨9, [vs, x25].map eS⟩]) (n := N) ⟨0, hL3, (Ghost.rn [0] rfl rfl (FLe.same rfl (FLe.le rfl (by first | exact V.le_refl _ _ | (simp only [len_set, len_cpy]; exact V.le_refl _ _)) (FLe.same rfl (FLe.same rfl FLe.nil)))) (HLe.live rfl (les_map (fun _ => rfl) _) (all_map (fun _ => rfl) _) HLe.nil) rfl)⟩ (by rintro s h ⟨_, h0, _⟩; simp [law27_AddressEncodes_L3] at h0) ?_
        rintro m3 s h ⟨x28, hr3, hg⟩
        refine AB.ghost hg ?_
        clear hg hL3
        rw [law27_AddressEncodes_L3] at hr3
        refine AB.seq ?_
        refine AB.rw ?_
        refine wS (v := (eB (decide (x28 < (2 : Int))))) (sv (d_bin rfl rfl (bin_lss ..))) ?_
        refine OpsW.nil ?_
        refine Ex.then_mk ?_
        refine AB.seq ?_
        refine AB.cnd rfl (fun h5 => ?_) (fun h5 => ?_)
        · replace hr3 := iteT hr3 h5
          refine AB.skip ?_
          refine Ex.then_mk ?_
          refine AB.seq ?_
          refine AB.block ?_
          refine AB.seq ?_
          replace hr3 := bnd hr3; obtain ⟨x30, h_6, hr3⟩ := hr3
          refine AB.rw ?_
          refine wS (v := (.ptr 0 (Int.toNat x28))) (sv (d_ia rfl rfl (iaS rfl ti28 ti9 rfl h_6))) ?_
          refine wS (v := (eS x30)) (sv (d_load rfl (ldX (E := eS) (y := x30) ti9 rfl rfl h_6))) ?_
          refine wS (v := (eS x30)) (sv (d_assign rfl)) ?_
          refine OpsW.nil ?_
          refine Ex.then_mk ?_
          refine AB.seq ?_
          replace hr3 := bnd hr3; obtain ⟨x35, h_7, hr3⟩ := hr3
          refine AB.rw ?_
          refine wS (v := (eS x30)) (sv (d_move rfl)) ?_
          refine wS (v := (.row none 1 (b.map (eI .u8)))) (sv (d_move rfl)) ?_
          refine wC (v := (.tup [(eS x35.1), (eI .i64 x35.2)])) (h' := [some ⟨9, [vs, x25].map eS⟩]) rfl (Vm.Fn.pure (address_Encode_ok N x30 b x35 h_7) rfl rfl) ?_
          refine wS (v := (.tup [(eS x35.1), (eI .i64 x35.2)])) (sv (d_move rfl)) ?_
          refine wS (v := (eS x35.1)) (sv (d_ext rfl rfl)) ?_
          refine wS (v := (eI .i64 x35.2)) (sv (d_ext rfl rfl)) ?_
          refine wS (v := (eS x35.1)) (sv (d_assign rfl)) ?_
          refine wS (v := (eI .i64 x35.2)) (sv (d_assign rfl)) ?_
          refine OpsW.nil ?_
          refine Ex.then_mk ?_
          refine AB.seq ?_
          replace hr3 := bnd hr3; obtain ⟨x41, h_8, hr3⟩ := hr3
          refine AB.rw ?_
          refine wS (v := (eS x30)) (sv (d_move rfl)) ?_
          refine wS (v := (.row none 1 (b.map (eI .u8)))) (sv (d_move rfl)) ?_
          refine wC (v := (.tup [(eS x41.1), (eI .i64 x41.2)])) (h' := [some ⟨9, [vs, x25].map eS⟩]) rfl (Vm.Fn.pure (ref27_Encode_ok N x30 b x41 h_8) rfl rfl) ?_
          refine wS (v := (.tup [(eS x41.1), (eI .i64 x41.2)])) (sv (d_move rfl)) ?_
          refine wS (v := (eS x41.1)) (sv (d_ext rfl rfl)) ?_
          refine wS (v := (eI .i64 x41.2)) (sv (d_ext rfl rfl)) ?_
          refine wS (v := (eS x41.1)) (sv (d_assign rfl)) ?_
          refine wS (v := (eI .i64 x41.2)) (sv (d_assign rfl)) ?_
          refine OpsW.nil ?_
          refine Ex.then_mk ?_
          refine AB.seq_g fun K4 hK4 hG4 => ?_
          have J4 : ∀ (x51 : Bool), law27_AddressEncodes_J4 N vs b x25 x28 (law27_AddressEncodes_L3 N vs b x25 m3) x51 = some res3 → K4 (mkF 53 [(2, (.row none 1 (b.map (eI .u8)))), (26, (.sl 0 0 ([vs, x25].length) 1 false)), (27, (eI .i64 (2 : Int))), (28, (eI .i64 x28)), (51, (eB x51))]) [some ⟨9, [vs, x25].map eS⟩] := by
            intro x51 hr3
            unfold law27_AddressEncodes_J4 at hr3
            refine hK4 _ _ ?_
            refine AB.cnd rfl (fun h9 => ?_) (fun h9 => ?_)
            · replace hr3 := iteT hr3 h9
              refine AB.seq ?_
              refine AB.rw ?_
              refine wS (v := (eB false)) (sv (d_assign rfl)) ?_
              refine OpsW.nil ?_
              refine Ex.then_mk ?_
              refine AB.ret ?_
              refine Ex.inBlock_ret_mk ?_
              refine Ex.then_ret_mk ?_
              refine Ex.then_ret_mk ?_
              refine Ex.inBlock_ret_mk ?_
              refine Ex.then_ret_mk ?_
              obtain rfl := Option.some.inj hr3
              obtain rfl := Option.some.inj hr
              exact done_ret (r1 := (eB false)) (res1 Tryd.results4 (rvT rfl)) (Ghost.rn [] rfl rfl (FLe.same rfl FLe.nil) HLe.nil rfl)
            · replace hr3 := iteF hr3 h9
              refine AB.skip ?_
              refine Ex.inBlock_mk ?_
              refine Ex.then_mk ?_
              refine AB.rw ?_
              refine wS (v := (eI .i64 (IntKind.i64.wrap (x28 + 1)))) (sv (d_bin rfl rfl (bin_add ..))) ?_
              refine wS (v := (eI .i64 (IntKind.i64.wrap (x28 + 1)))) (sv (d_move rfl)) ?_
              refine OpsW.nil ?_
              refine Ex.then_mk ?_
              exact ⟨IntKind.i64.wrap (x28 + 1), hr3, (Ghost.rn [0] rfl rfl (FLe.same rfl (FLe.same rfl (FLe.same rfl (FLe.same rfl FLe.nil)))) (HLe.live rfl (les_map (fun _ => rfl) _) (all_map (fun _ => rfl) _) HLe.nil) rfl)⟩
          rcases Bool.eq_false_or_eq_true (!(x35.1.toList == x41.1.toList)) with h10 | h10
          · replace hr3 := iteT hr3 h10
            refine AB.rw ?_
            refine wS (v := (eS x35.1)) (sv (d_move rfl)) ?_
            refine wS (v := (eS x41.1)) (sv (d_move rfl)) ?_
            refine wS (v := (eB (!(x35.1.toList == x41.1.toList)))) (sv (d_bin rfl rfl (bin_neqS ..))) ?_
            refine wS (v := (eB (!(x35.1.toList == x41.1.toList)))) (sv (d_move rfl)) ?_
            refine wS (svX rfl rfl h10) ?_
            refine wS (svX rfl rfl h10) ?_
            refine wS (svX rfl rfl h10) ?_
            refine wS (v := (eB true)) (sv (d_pickT rfl h10 rfl)) ?_
            refine OpsW.nil ?_
            refine Ex.then_mk ?_
            exact hG4 _ _ _ _ (Ghost.rn [0] rfl rfl (FLe.same rfl (FLe.same rfl (FLe.same rfl (FLe.same rfl (FLe.same rfl FLe.nil))))) (HLe.live rfl (les_map (fun _ => rfl) _) (all_map (fun _ => rfl) _) HLe.nil) rfl) (J4 true hr3)
          · replace hr3 := iteF hr3 h10
            refine AB.rw ?_
            refine wS (v := (eS x35.1)) (sv (d_move rfl)) ?_
            refine wS (v := (eS x41.1)) (sv (d_move rfl)) ?_
            refine wS (v := (eB (!(x35.1.toList == x41.1.toList)))) (sv (d_bin rfl rfl (bin_neqS ..))) ?_
            refine wS (v := (eB (!(x35.1.toList == x41.1.toList)))) (sv (d_move rfl)) ?_
            refine wS (v := (eI .i64 x35.2)) (svG rfl rfl h10 (d_move rfl)) ?_
            refine wS (v := (eI .i64 x41.2)) (svG rfl rfl h10 (d_move rfl)) ?_
            refine wS (v := (eB (x35.2 != x41.2))) (svG rfl rfl h10 (d_bin rfl rfl (bin_neq ..))) ?_
            refine wS (v := (eB (x35.2 != x41.2))) (sv (d_pickF rfl h10 rfl)) ?_
            refine OpsW.nil ?_
            refine Ex.then_mk ?_
            exact hG4 _ _ _ _ (Ghost.rn [0] rfl rfl (FLe.same rfl (FLe.same rfl (FLe.same rfl (FLe.same rfl (FLe.same rfl FLe.nil))))) (HLe.live rfl (les_map (fun _ => rfl) _) (all_map (fun _ => rfl) _) HLe.nil) rfl) (J4 (x35.2 != x41.2) hr3)
        · replace hr3 := iteF hr3 h5
          refine AB.exit ?_
          refine Ex.then_exit_mk ?_
          refine Ex.then_exit_mk ?_
          refine Ex.inBlock_same_mk ?_
          obtain rfl := Option.some.inj hr3
          refine Ex.then_mk ?_
          exact hG2 _ _ _ _ (Ghost.rn [] rfl rfl FLe.nil HLe.nil rfl) (J2 hr)
    rcases Bool.eq_false_or_eq_true (decide (30 < (vs.size : Int))) with h11 | h11
    · replace hr := iteT hr h11
      refine AB.rw ?_
      refine wS (v := (eS vs)) (sv (d_move rfl)) ?_
      refine wS (v := (eI .i64 (vs.size : Int))) (sv (d_len rfl (lenT ti9))) ?_
      refine wS (v := (eB (decide (30 < (vs.size : Int))))) (sv (d_bin rfl rfl (bin_gtr ..))) ?_
      refine wS (v := (eB (decide (30 < (vs.size : Int))))) (sv (d_move rfl)) ?_
      refine wS (svX rfl rfl h11) ?_
      refine wS (svX rfl rfl h11) ?_
      refine wS (svX rfl rfl h11) ?_
      refine wS (v := (eB true)) (sv (d_pickT rfl h11 rfl)) ?_
      refine OpsW.nil ?_
      refine Ex.then_mk ?_
      exact hG1 _ _ _ _ (Ghost.rn [] rfl rfl (FLe.same rfl (FLe.same rfl (FLe.same rfl (FLe.same rfl FLe.nil)))) HLe.nil rfl) (J1 true hr)
    · replace hr := iteF hr h11
      refine AB.rw ?_
      refine wS (v := (eS vs)) (sv (d_move rfl)) ?_
      refine wS (v := (eI .i64 (vs.size : Int))) (sv (d_len rfl (lenT ti9))) ?_
      refine wS (v := (eB (decide (30 < (vs.size : Int))))) (sv (d_bin rfl rfl (bin_gtr ..))) ?_
      refine wS (v := (eB (decide (30 < (vs.size : Int))))) (sv (d_move rfl)) ?_
      refine wS (v := (.row none 1 (b.map (eI .u8)))) (svG rfl rfl h11 (d_move rfl)) ?_
      refine wS (v := (eI .i64 (b.length : Int))) (svG rfl rfl h11 (d_len rfl (lenR ti22))) ?_
      refine wS (v := (eB (decide (130 < (b.length : Int))))) (svG rfl rfl h11 (d_bin rfl rfl (bin_gtr ..))) ?_
      refine wS (v := (eB (decide (130 < (b.length : Int))))) (sv (d_pickF rfl h11 rfl)) ?_
      refine OpsW.nil ?_
      refine Ex.then_mk ?_
      exact hG1 _ _ _ _ (Ghost.rn [] rfl rfl (FLe.same rfl (FLe.same rfl (FLe.same rfl (FLe.same rfl FLe.nil)))) HLe.nil rfl) (J1 (decide (130 < (b.length : Int))) hr)
end Go.Proofs.YtidkaiebgjbekaaDoor
