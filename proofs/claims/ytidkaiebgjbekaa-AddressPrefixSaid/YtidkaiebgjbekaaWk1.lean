/- Walks printed by a program of ours (gen.py): each Go function of the list does what its shallow function says. -/
import Derived.Test.YtidkaiebgjbekaaSh
import Derived.Test.YtidkaiebgjbekaaTyF
set_option linter.unusedVariables false
set_option linter.unusedSimpArgs false
namespace Go.Proofs.Ytidkaiebgjbekaa
open Go Go.Vm
set_option maxRecDepth 20000 in
set_option maxHeartbeats 1000000 in
theorem address_Convert_ok (N : Nat) (b : List Int) (r : (List Int)) (hr : address_Convert N b = some r) :
    Vm.Fn Try.prog 10 [] [(.row none 1 (b.map (eI .u8)))] (.sl 0 0 r.length 1 false) [some ⟨5, r.map (eI .u8)⟩] := by
  refine fn_ab Try.func10 rfl (by kernel_rfl) Try.ntmps10 (Nat.le_of_ble_eq_true rfl) rfl (fr := [(0, (.row none 1 (b.map (eI .u8))))]) rfl ?_
  unfold address_Convert at hr
  refine AB.seq ?_
  refine AB.rw ?_
  refine wS (v := (.row (some true) 1 [])) (sv (d_assign rfl)) ?_
  refine OpsW.nil ?_
  refine Ex.then_mk ?_
  refine AB.seq ?_
  refine AB.rw ?_
  refine wS (v := (.row (some true) 1 [])) (sv (d_assign rfl)) ?_
  refine OpsW.nil ?_
  refine Ex.then_mk ?_
  refine AB.seq ?_
  refine AB.rw ?_
  refine wS (v := (eI .u32 0)) (sv (d_assign rfl)) ?_
  refine wS (v := (eI .i64 0)) (sv (d_assign rfl)) ?_
  refine OpsW.nil ?_
  refine Ex.then_mk ?_
  refine AB.seq_g fun K1 hK1 hG1 => ?_
  have J1 : ∀ (held : Int) (vn : Int) (l0 : List Int), address_Convert_J1 N held vn l0 = some r → K1 (mkF 50 [(3, (.sl 0 0 l0.length 1 false)), (4, (eI .u32 held)), (5, (eI .i64 vn))]) [some ⟨5, l0.map (eI .u8)⟩] := by
    intro held vn l0 hr
    unfold address_Convert_J1 at hr
    refine hK1 _ _ ?_
    refine AB.seq_g fun K2 hK2 hG2 => ?_
    have J2 : ∀ (l0_1 : List Int), address_Convert_J2 N l0_1 = some r → K2 (mkF 50 [(3, (.sl 0 0 l0_1.length 1 false))]) [some ⟨5, l0_1.map (eI .u8)⟩] := by
      intro l0_1 hr
      unfold address_Convert_J2 at hr
      refine hK2 _ _ ?_
      refine AB.seq ?_
      refine AB.rw ?_
      refine wS (v := (.sl 0 0 l0_1.length 1 false)) (sv (d_move rfl)) ?_
      refine wS (v := (.sl 0 0 l0_1.length 1 false)) (sv (d_assign rfl)) ?_
      refine OpsW.nil ?_
      refine Ex.then_mk ?_
      refine AB.ret ?_
      obtain rfl := Option.some.inj hr
      exact done_ret (r1 := (.sl 0 0 l0_1.length 1 false)) (res1 Try.results10 (rvT rfl)) (Ghost.rn [0] rfl rfl (FLe.same rfl FLe.nil) (HLe.live rfl (les_map (fun _ => rfl) _) (all_map (fun _ => rfl) _) HLe.nil) rfl)
    refine AB.seq ?_
    refine AB.rw ?_
    refine wS (v := (eI .i64 vn)) (sv (d_move rfl)) ?_
    refine wS (v := (eB (decide (0 < vn)))) (sv (d_bin rfl rfl (bin_gtr ..))) ?_
    refine OpsW.nil ?_
    refine Ex.then_mk ?_
    refine AB.cnd rfl (fun h1 => ?_) (fun h1 => ?_)
    · replace hr := iteT hr h1
      replace hr := bnd hr; obtain ⟨x45, h_2, hr⟩ := hr
      replace hr := bnd hr; obtain ⟨x48, h_3, hr⟩ := hr
      refine AB.rw ?_
      refine wS (v := (.sl 0 0 l0.length 1 false)) (sv (d_move rfl)) ?_
      refine wS (v := (eI .u32 held)) (sv (d_move rfl)) ?_
      refine wS (v := (eI .i64 vn)) (sv (d_move rfl)) ?_
      refine wS (v := (eI .i64 (IntKind.i64.wrap (5 - vn)))) (sv (d_bin rfl rfl (bin_sub ..))) ?_
      refine wS (v := (eI .u32 x45)) (sv (d_bin rfl rfl (bin_shl' _ _ _ _ h_2))) ?_
      refine wS (v := (eI .u8 (IntKind.u8.wrap x45))) (sv (d_conv rfl (conv_int _ ⟨_, ti35⟩ ti5 rfl))) ?_
      refine wS (v := (.sl 1 0 1 1 false)) (h' := [some ⟨5, l0.map (eI .u8)⟩, some ⟨5, [IntKind.u8.wrap x45].map (eI .u8)⟩]) (sv (d_buildS rfl (bldL1 (xs := [IntKind.u8.wrap x45].map (eI .u8)) ti22 ti5 (Nat.le_of_ble_eq_true rfl) (Nat.le_of_ble_eq_true rfl) rfl rfl rfl rfl rfl rfl rfl))) ?_
      refine wS (v := (.sl 2 0 x48.length 1 false)) (h' := [none, some ⟨5, [IntKind.u8.wrap x45].map (eI .u8)⟩, some ⟨5, x48.map (eI .u8)⟩]) (sv (d_append rfl rfl (appS (E := (eI .u8)) rfl ti22 ti5 ⟨rfl, rfl, Nat.le_of_ble_eq_true rfl⟩ rfl (srcS rfl rfl) h_3 rfl rfl))) ?_
      refine wS (v := (.sl 2 0 x48.length 1 false)) (sv (d_assign rfl)) ?_
      refine OpsW.nil ?_
      refine Ex.then_mk ?_
      exact hG2 _ _ _ _ (Ghost.rn [2] rfl rfl (FLe.same rfl FLe.nil) (HLe.live rfl (les_map (fun _ => rfl) _) (all_map (fun _ => rfl) _) HLe.nil) rfl) (J2 x48 hr)
    · replace hr := iteF hr h1
      refine AB.skip ?_
      refine Ex.then_mk ?_
      exact hG2 _ _ _ _ (Ghost.rn [0] rfl rfl (FLe.same rfl FLe.nil) (HLe.live rfl (les_map (fun _ => rfl) _) (all_map (fun _ => rfl) _) HLe.nil) rfl) (J2 l0 hr)
  refine AB.seq ?_
  refine AB.rw ?_
  refine wS (v := (.row none 1 (b.map (eI .u8)))) (sv (d_move rfl)) ?_
  refine wS (v := (eI .i64 (b.length : Int))) (sv (d_len rfl (lenR ti22))) ?_
  refine wS (v := (eI .i64 0)) (sv (d_move rfl)) ?_
  refine OpsW.nil ?_
  refine Ex.then_mk ?_
  replace hr := bnd hr; obtain ⟨res3, hL3, hr⟩ := hr
  refine AB.block ?_
  refine AB.loopN (fun m s h => ∃ (held_1 : Int) (vn_1 : Int) (x10 : Int) (l0_2 : List Int), address_Convert_L3 N b m held_1 vn_1 x10 l0_2 = some res3 ∧ Ghost 0 s h (mkF 50 [(3, (.sl 0 0 l0_2.length 1 false)), (4, (eI .u32 held_1)), (5, (eI .i64 vn_1)), (8, (.row none 1 (b.map (eI .u8)))), (9, (eI .i64 (b.length : Int))), (10, (eI .i64 x10))]) [some ⟨5, l0_2.map (eI .u8)⟩]) (n := N) ⟨0, 0, 0, [], hL3, (Ghost.trans (Ghost.virt (fr' := [(3, (.sl 0 0 0 1 false)), (4, (eI .u32 0)), (5, (eI .i64 0)), (8, (.row none 1 (b.map (eI .u8)))), (9, (eI .i64 (b.length : Int))), (10, (eI .i64 0))]) (h1 := []) 5 (FLe.le rfl (V.le_virt rfl) (FLe.same rfl (FLe.same rfl (FLe.same rfl (FLe.same rfl (FLe.same rfl FLe.nil)))))) HLv.nil) (Ghost.rn [0] rfl rfl (FLe.le rfl (by first | exact V.le_refl _ _ | (simp only [len_set, len_cpy]; exact V.le_refl _ _)) (FLe.same rfl (FLe.same rfl (FLe.same rfl (FLe.same rfl (FLe.same rfl FLe.nil)))))) (HLe.live rfl V.les_nil rfl HLe.nil) rfl))⟩ (by rintro s h ⟨_, _, _, _, h0, _⟩; simp [address_Convert_L3] at h0) ?_
  rintro m3 s h ⟨held_1, vn_1, x10, l0_2, hr3, hg⟩
  refine AB.ghost hg ?_
  clear hg hL3
  rw [address_Convert_L3] at hr3
  refine AB.seq ?_
  refine AB.rw ?_
  refine wS (v := (eB (decide (x10 < (b.length : Int))))) (sv (d_bin rfl rfl (bin_lss ..))) ?_
  refine OpsW.nil ?_
  refine Ex.then_mk ?_
  refine AB.seq ?_
  refine AB.cnd rfl (fun h4 => ?_) (fun h4 => ?_)
  · replace hr3 := iteT hr3 h4
    refine AB.skip ?_
    refine Ex.then_mk ?_
    refine AB.seq_g fun K4 hK4 hG4 => ?_
    have J4 : ∀ (held_2 : Int) (vn_2 : Int) (l0_3 : List Int), address_Convert_J4 N b x10 (address_Convert_L3 N b m3) held_2 vn_2 l0_3 = some res3 → K4 (mkF 50 [(3, (.sl 0 0 l0_3.length 1 false)), (4, (eI .u32 held_2)), (5, (eI .i64 vn_2)), (8, (.row none 1 (b.map (eI .u8)))), (9, (eI .i64 (b.length : Int))), (10, (eI .i64 x10))]) [some ⟨5, l0_3.map (eI .u8)⟩] := by
      intro held_2 vn_2 l0_3 hr3
      unfold address_Convert_J4 at hr3
      refine hK4 _ _ ?_
      refine AB.rw ?_
      refine wS (v := (eI .i64 (IntKind.i64.wrap (x10 + 1)))) (sv (d_bin rfl rfl (bin_add ..))) ?_
      refine wS (v := (eI .i64 (IntKind.i64.wrap (x10 + 1)))) (sv (d_move rfl)) ?_
      refine OpsW.nil ?_
      refine Ex.then_mk ?_
      exact ⟨held_2, vn_2, IntKind.i64.wrap (x10 + 1), l0_3, hr3, (Ghost.rn [0] rfl rfl (FLe.same rfl (FLe.same rfl (FLe.same rfl (FLe.same rfl (FLe.same rfl (FLe.same rfl FLe.nil)))))) (HLe.live rfl (les_map (fun _ => rfl) _) (all_map (fun _ => rfl) _) HLe.nil) rfl)⟩
    refine AB.block ?_
    refine AB.seq ?_
    replace hr3 := bnd hr3; obtain ⟨x12, h_5, hr3⟩ := hr3
    refine AB.rw ?_
    refine wS (sv (d_ia rfl rfl (iaR ti22 ti5 h_5))) ?_
    refine wS (v := (eI .u8 x12)) (sv (d_load rfl (ldR h_5 (part1 ti5 rfl rfl)))) ?_
    refine wS (v := (eI .u8 x12)) (sv (d_assign rfl)) ?_
    refine OpsW.nil ?_
    refine Ex.then_mk ?_
    refine AB.seq ?_
    replace hr3 := bnd hr3; obtain ⟨x15, h_6, hr3⟩ := hr3
    refine AB.rw ?_
    refine wS (v := (eI .u32 held_1)) (sv (d_move rfl)) ?_
    refine wS (v := (eI .u32 x15)) (sv (d_bin rfl rfl (bin_shl' _ _ _ _ h_6))) ?_
    refine wS (v := (eI .u8 x12)) (sv (d_move rfl)) ?_
    refine wS (v := (eI .u32 (IntKind.u32.wrap x12))) (sv (d_conv rfl (conv_int _ ⟨_, ti5⟩ ti35 rfl))) ?_
    refine wS (v := (eI .u32 (bits .or .u32 x15 (IntKind.u32.wrap x12)))) (sv (d_bin rfl rfl (bin_or ..))) ?_
    refine wS (v := (eI .u32 (bits .or .u32 x15 (IntKind.u32.wrap x12)))) (sv (d_assign rfl)) ?_
    refine OpsW.nil ?_
    refine Ex.then_mk ?_
    refine AB.seq ?_
    refine AB.rw ?_
    refine wS (v := (eI .i64 vn_1)) (sv (d_move rfl)) ?_
    refine wS (v := (eI .i64 (IntKind.i64.wrap (vn_1 + 8)))) (sv (d_bin rfl rfl (bin_add ..))) ?_
    refine wS (v := (eI .i64 (IntKind.i64.wrap (vn_1 + 8)))) (sv (d_assign rfl)) ?_
    refine OpsW.nil ?_
    refine Ex.then_mk ?_
    refine AB.seq_g fun K5 hK5 hG5 => ?_
    have J5 : ∀ (vn_3 : Int) (l0_4 : List Int), address_Convert_J5 N b x10 x12 x15 (address_Convert_L3 N b m3) vn_3 l0_4 = some res3 → K5 (mkF 50 [(3, (.sl 0 0 l0_4.length 1 false)), (4, (eI .u32 (bits .or .u32 x15 (IntKind.u32.wrap x12)))), (5, (eI .i64 vn_3)), (8, (.row none 1 (b.map (eI .u8)))), (9, (eI .i64 (b.length : Int))), (10, (eI .i64 x10))]) [some ⟨5, l0_4.map (eI .u8)⟩] := by
      intro vn_3 l0_4 hr3
      unfold address_Convert_J5 at hr3
      refine hK5 _ _ ?_
      replace hr3 := bnd hr3; obtain ⟨x35, h_7, hr3⟩ := hr3
      refine AB.rw ?_
      refine wS (v := (eI .u32 (bits .or .u32 x15 (IntKind.u32.wrap x12)))) (sv (d_move rfl)) ?_
      refine wS (v := (eI .i64 vn_3)) (sv (d_move rfl)) ?_
      refine wS (v := (eI .u32 x35)) (sv (d_bin rfl rfl (bin_shl' _ _ _ _ h_7))) ?_
      refine wS (v := (eI .u32 (IntKind.u32.wrap (x35 - 1)))) (sv (d_bin rfl rfl (bin_sub ..))) ?_
      refine wS (v := (eI .u32 (bits .and .u32 (bits .or .u32 x15 (IntKind.u32.wrap x12)) (IntKind.u32.wrap (x35 - 1))))) (sv (d_bin rfl rfl (bin_and ..))) ?_
      refine wS (v := (eI .u32 (bits .and .u32 (bits .or .u32 x15 (IntKind.u32.wrap x12)) (IntKind.u32.wrap (x35 - 1))))) (sv (d_assign rfl)) ?_
      refine OpsW.nil ?_
      refine Ex.inBlock_mk ?_
      refine Ex.then_mk ?_
      exact hG4 _ _ _ _ (Ghost.rn [0] rfl rfl (FLe.same rfl (FLe.same rfl (FLe.same rfl (FLe.same rfl (FLe.same rfl (FLe.same rfl FLe.nil)))))) (HLe.live rfl (les_map (fun _ => rfl) _) (all_map (fun _ => rfl) _) HLe.nil) rfl) (J4 (bits .and .u32 (bits .or .u32 x15 (IntKind.u32.wrap x12)) (IntKind.u32.wrap (x35 - 1))) vn_3 l0_4 hr3)
    replace hr3 := bnd hr3; obtain ⟨res6, hL6, hr3⟩ := hr3
    refine AB.block ?_
    refine AB.loopN (fun m s h => ∃ (vn_4 : Int) (l0_5 : List Int), address_Convert_L6 N b x10 x12 x15 m vn_4 l0_5 = some res6 ∧ Ghost 0 s h (mkF 50 [(3, (.sl 0 0 l0_5.length 1 false)), (4, (eI .u32 (bits .or .u32 x15 (IntKind.u32.wrap x12)))), (5, (eI .i64 vn_4)), (8, (.row none 1 (b.map (eI .u8)))), (9, (eI .i64 (b.length : Int))), (10, (eI .i64 x10))]) [some ⟨5, l0_5.map (eI .u8)⟩]) (n := N) ⟨IntKind.i64.wrap (vn_1 + 8), l0_2, hL6, (Ghost.rn [0] rfl rfl (FLe.same rfl (FLe.same rfl (FLe.same rfl (FLe.same rfl (FLe.same rfl (FLe.same rfl FLe.nil)))))) (HLe.live rfl (les_map (fun _ => rfl) _) (all_map (fun _ => rfl) _) HLe.nil) rfl)⟩ (by rintro s h ⟨_, _, h0, _⟩; simp [address_Convert_L6] at h0) ?_
    rintro m6 s h ⟨vn_4, l0_5, hr6, hg⟩
    refine AB.ghost hg ?_
    clear hg hL6
    rw [address_Convert_L6] at hr6
    refine AB.seq ?_
    refine AB.seq ?_
    refine AB.rw ?_
    refine wS (v := (eI .i64 vn_4)) (sv (d_move rfl)) ?_
    refine wS (v := (eB (decide (5 ≤ vn_4)))) (sv (d_bin rfl rfl (bin_geq ..))) ?_
    refine OpsW.nil ?_
    refine Ex.then_mk ?_
    refine AB.cnd rfl (fun h8 => ?_) (fun h8 => ?_)
    · replace hr6 := iteT hr6 h8
      refine AB.skip ?_
      refine Ex.then_mk ?_
      refine AB.block ?_
      refine AB.seq ?_
      refine AB.rw ?_
      refine wS (v := (eI .i64 vn_4)) (sv (d_move rfl)) ?_
      refine wS (v := (eI .i64 (IntKind.i64.wrap (vn_4 - 5)))) (sv (d_bin rfl rfl (bin_sub ..))) ?_
      refine wS (v := (eI .i64 (IntKind.i64.wrap (vn_4 - 5)))) (sv (d_assign rfl)) ?_
      refine OpsW.nil ?_
      refine Ex.then_mk ?_
      replace hr6 := bnd hr6; obtain ⟨x28, h_9, hr6⟩ := hr6
      replace hr6 := bnd hr6; obtain ⟨x32, h_10, hr6⟩ := hr6
      refine AB.rw ?_
      refine wS (v := (.sl 0 0 l0_5.length 1 false)) (sv (d_move rfl)) ?_
      refine wS (v := (eI .u32 (bits .or .u32 x15 (IntKind.u32.wrap x12)))) (sv (d_move rfl)) ?_
      refine wS (v := (eI .i64 (IntKind.i64.wrap (vn_4 - 5)))) (sv (d_move rfl)) ?_
      refine wS (v := (eI .u32 x28)) (sv (d_bin rfl rfl (bin_shr' _ _ _ _ h_9))) ?_
      refine wS (v := (eI .u8 (IntKind.u8.wrap x28))) (sv (d_conv rfl (conv_int _ ⟨_, ti35⟩ ti5 rfl))) ?_
      refine wS (v := (eI .u8 (bits .and .u8 (IntKind.u8.wrap x28) 31))) (sv (d_bin rfl rfl (bin_and ..))) ?_
      refine wS (v := (.sl 1 0 1 1 false)) (h' := [some ⟨5, l0_5.map (eI .u8)⟩, some ⟨5, [bits .and .u8 (IntKind.u8.wrap x28) 31].map (eI .u8)⟩]) (sv (d_buildS rfl (bldL1 (xs := [bits .and .u8 (IntKind.u8.wrap x28) 31].map (eI .u8)) ti22 ti5 (Nat.le_of_ble_eq_true rfl) (Nat.le_of_ble_eq_true rfl) rfl rfl rfl rfl rfl rfl rfl))) ?_
      refine wS (v := (.sl 2 0 x32.length 1 false)) (h' := [none, some ⟨5, [bits .and .u8 (IntKind.u8.wrap x28) 31].map (eI .u8)⟩, some ⟨5, x32.map (eI .u8)⟩]) (sv (d_append rfl rfl (appS (E := (eI .u8)) rfl ti22 ti5 ⟨rfl, rfl, Nat.le_of_ble_eq_true rfl⟩ rfl (srcS rfl rfl) h_10 rfl rfl))) ?_
      refine wS (v := (.sl 2 0 x32.length 1 false)) (sv (d_assign rfl)) ?_
      refine OpsW.nil ?_
      refine Ex.inBlock_mk ?_
      refine Ex.then_mk ?_
      exact ⟨IntKind.i64.wrap (vn_4 - 5), x32, hr6, (Ghost.rn [2] rfl rfl (FLe.same rfl (FLe.same rfl (FLe.same rfl (FLe.same rfl (FLe.same rfl (FLe.same rfl FLe.nil)))))) (HLe.live rfl (les_map (fun _ => rfl) _) (all_map (fun _ => rfl) _) HLe.nil) rfl)⟩
    · replace hr6 := iteF hr6 h8
      refine AB.exit ?_
      refine Ex.then_exit_mk ?_
      refine Ex.then_exit_mk ?_
      refine Ex.inBlock_same_mk ?_
      obtain rfl := Option.some.inj hr6
      refine Ex.then_mk ?_
      exact hG5 _ _ _ _ (Ghost.rn [0] rfl rfl (FLe.same rfl (FLe.same rfl (FLe.same rfl (FLe.same rfl (FLe.same rfl (FLe.same rfl FLe.nil)))))) (HLe.live rfl (les_map (fun _ => rfl) _) (all_map (fun _ => rfl) _) HLe.nil) rfl) (J5 vn_4 l0_5 hr3)
  · replace hr3 := iteF hr3 h4
    refine AB.exit ?_
    refine Ex.then_exit_mk ?_
    refine Ex.then_exit_mk ?_
    refine Ex.inBlock_same_mk ?_
    obtain rfl := Option.some.inj hr3
    refine Ex.then_mk ?_
    exact hG1 _ _ _ _ (Ghost.rn [0] rfl rfl (FLe.same rfl (FLe.same rfl (FLe.same rfl FLe.nil))) (HLe.live rfl (les_map (fun _ => rfl) _) (all_map (fun _ => rfl) _) HLe.nil) rfl) (J1 held_1 vn_1 l0_2 hr)
set_option maxRecDepth 20000 in
set_option maxHeartbeats 1000000 in
theorem address_Back_ok (N : Nat) (d : List Int) (r : (List Int) × Int) (hr : address_Back N d = some r) :
    Vm.Fn Try.prog 7 [] [(.row none 1 (d.map (eI .u8)))] (.tup [(.sl 0 0 r.1.length 1 false), (eI .i64 r.2)]) [some ⟨5, r.1.map (eI .u8)⟩] := by
  refine fn_ab Try.func7 rfl (by kernel_rfl) Try.ntmps7 (Nat.le_of_ble_eq_true rfl) rfl (fr := [(0, (.row none 1 (d.map (eI .u8))))]) rfl ?_
  unfold address_Back at hr
  refine AB.seq ?_
  refine AB.rw ?_
  refine wS (v := (.row (some true) 1 [])) (sv (d_assign rfl)) ?_
  refine wS (v := (eI .i64 0)) (sv (d_assign rfl)) ?_
  refine OpsW.nil ?_
  refine Ex.then_mk ?_
  refine AB.seq_g fun K1 hK1 hG1 => ?_
  have J1 : address_Back_J1 N d = some r → K1 (mkF 57 [(0, (.row none 1 (d.map (eI .u8))))]) [] := by
    intro hr
    unfold address_Back_J1 at hr
    refine hK1 _ _ ?_
    refine AB.seq ?_
    refine AB.rw ?_
    refine wS (v := (.row (some true) 1 [])) (sv (d_assign rfl)) ?_
    refine OpsW.nil ?_
    refine Ex.then_mk ?_
    refine AB.seq ?_
    refine AB.rw ?_
    refine wS (v := (eI .u32 0)) (sv (d_assign rfl)) ?_
    refine wS (v := (eI .i64 0)) (sv (d_assign rfl)) ?_
    refine OpsW.nil ?_
    refine Ex.then_mk ?_
    refine AB.seq_g fun K2 hK2 hG2 => ?_
    have J2 : ∀ (held : Int) (vn : Int) (l0 : List Int), address_Back_J2 N held vn l0 = some r → K2 (mkF 57 [(6, (.sl 0 0 l0.length 1 false)), (7, (eI .u32 held)), (8, (eI .i64 vn))]) [some ⟨5, l0.map (eI .u8)⟩] := by
      intro held vn l0 hr
      unfold address_Back_J2 at hr
      refine hK2 _ _ ?_
      refine AB.seq ?_
      refine AB.seq_g fun K3 hK3 hG3 => ?_
      have J3 : ∀ (x55 : Bool), address_Back_J3 N l0 x55 = some r → K3 (mkF 57 [(6, (.sl 0 0 l0.length 1 false)), (55, (eB x55))]) [some ⟨5, l0.map (eI .u8)⟩] := by
        intro x55 hr
        unfold address_Back_J3 at hr
        refine hK3 _ _ ?_
        refine AB.cnd rfl (fun h1 => ?_) (fun h1 => ?_)
        · replace hr := iteT hr h1
          refine AB.seq ?_
          refine AB.rw ?_
          refine wS (v := (.row (some true) 1 [])) (sv (d_assign rfl)) ?_
          refine wS (v := (eI .i64 3)) (sv (d_assign rfl)) ?_
          refine OpsW.nil ?_
          refine Ex.then_mk ?_
          refine AB.ret ?_
          refine Ex.then_ret_mk ?_
          obtain rfl := Option.some.inj hr
          exact done_ret (r1 := (.tup [(.row (some true) 1 []), (eI .i64 3)])) (res2 Try.results7 (rvT rfl) (rvT rfl)) (Ghost.trans (Ghost.virt (fr' := [(0, (.tup [(.sl 1 0 0 1 false), (eI .i64 3)]))]) (h1 := [some ⟨5, l0.map (eI .u8)⟩]) 5 (FLe.le rfl (V.le_tup (V.les_cons (V.le_virt rfl) (V.les_cons (V.le_refl _ _) V.les_nil))) FLe.nil) (HLv.live (V.les_refl _ _) (all_map (fun _ => rfl) _) HLv.nil)) (Ghost.rn [1] rfl rfl (FLe.le rfl (V.le_tup (V.les_cons (by first | exact V.le_refl _ _ | (simp only [len_set, len_cpy]; exact V.le_refl _ _)) (V.les_cons (V.le_refl _ _) V.les_nil))) FLe.nil) (HLe.live rfl V.les_nil rfl HLe.nil) rfl))
        · replace hr := iteF hr h1
          refine AB.skip ?_
          refine Ex.then_mk ?_
          refine AB.seq ?_
          refine AB.rw ?_
          refine wS (v := (.sl 0 0 l0.length 1 false)) (sv (d_move rfl)) ?_
          refine wS (v := (.sl 0 0 l0.length 1 false)) (sv (d_assign rfl)) ?_
          refine wS (v := (eI .i64 0)) (sv (d_assign rfl)) ?_
          refine OpsW.nil ?_
          refine Ex.then_mk ?_
          refine AB.ret ?_
          obtain rfl := Option.some.inj hr
          exact done_ret (r1 := (.tup [(.sl 0 0 l0.length 1 false), (eI .i64 0)])) (res2 Try.results7 (rvT rfl) (rvT rfl)) (Ghost.rn [0] rfl rfl (FLe.same rfl FLe.nil) (HLe.live rfl (les_map (fun _ => rfl) _) (all_map (fun _ => rfl) _) HLe.nil) rfl)
      rcases Bool.eq_false_or_eq_true (decide (5 ≤ vn)) with h2 | h2
      · replace hr := iteT hr h2
        refine AB.rw ?_
        refine wS (v := (eI .i64 vn)) (sv (d_move rfl)) ?_
        refine wS (v := (eB (decide (5 ≤ vn)))) (sv (d_bin rfl rfl (bin_geq ..))) ?_
        refine wS (v := (eB (decide (5 ≤ vn)))) (sv (d_move rfl)) ?_
        refine wS (svX rfl rfl h2) ?_
        refine wS (svX rfl rfl h2) ?_
        refine wS (v := (eB true)) (sv (d_pickT rfl h2 rfl)) ?_
        refine OpsW.nil ?_
        refine Ex.then_mk ?_
        exact hG3 _ _ _ _ (Ghost.rn [0] rfl rfl (FLe.same rfl (FLe.same rfl FLe.nil)) (HLe.live rfl (les_map (fun _ => rfl) _) (all_map (fun _ => rfl) _) HLe.nil) rfl) (J3 true hr)
      · replace hr := iteF hr h2
        refine AB.rw ?_
        refine wS (v := (eI .i64 vn)) (sv (d_move rfl)) ?_
        refine wS (v := (eB (decide (5 ≤ vn)))) (sv (d_bin rfl rfl (bin_geq ..))) ?_
        refine wS (v := (eB (decide (5 ≤ vn)))) (sv (d_move rfl)) ?_
        refine wS (v := (eI .u32 held)) (svG rfl rfl h2 (d_move rfl)) ?_
        refine wS (v := (eB (held != 0))) (svG rfl rfl h2 (d_bin rfl rfl (bin_neq ..))) ?_
        refine wS (v := (eB (held != 0))) (sv (d_pickF rfl h2 rfl)) ?_
        refine OpsW.nil ?_
        refine Ex.then_mk ?_
        exact hG3 _ _ _ _ (Ghost.rn [0] rfl rfl (FLe.same rfl (FLe.same rfl FLe.nil)) (HLe.live rfl (les_map (fun _ => rfl) _) (all_map (fun _ => rfl) _) HLe.nil) rfl) (J3 (held != 0) hr)
    refine AB.seq ?_
    refine AB.rw ?_
    refine wS (v := (.row none 1 (d.map (eI .u8)))) (sv (d_move rfl)) ?_
    refine wS (v := (eI .i64 (d.length : Int))) (sv (d_len rfl (lenR ti22))) ?_
    refine wS (v := (eI .i64 0)) (sv (d_move rfl)) ?_
    refine OpsW.nil ?_
    refine Ex.then_mk ?_
    replace hr := bnd hr; obtain ⟨res4, hL4, hr⟩ := hr
    refine AB.block ?_
    refine AB.loopN (fun m s h => ∃ (held_1 : Int) (vn_1 : Int) (x22 : Int) (l0_1 : List Int), address_Back_L4 N d m held_1 vn_1 x22 l0_1 = some res4 ∧ Ghost 0 s h (mkF 57 [(6, (.sl 0 0 l0_1.length 1 false)), (7, (eI .u32 held_1)), (8, (eI .i64 vn_1)), (20, (.row none 1 (d.map (eI .u8)))), (21, (eI .i64 (d.length : Int))), (22, (eI .i64 x22))]) [some ⟨5, l0_1.map (eI .u8)⟩]) (n := N) ⟨0, 0, 0, [], hL4, (Ghost.trans (Ghost.virt (fr' := [(6, (.sl 0 0 0 1 false)), (7, (eI .u32 0)), (8, (eI .i64 0)), (20, (.row none 1 (d.map (eI .u8)))), (21, (eI .i64 (d.length : Int))), (22, (eI .i64 0))]) (h1 := []) 5 (FLe.le rfl (V.le_virt rfl) (FLe.same rfl (FLe.same rfl (FLe.same rfl (FLe.same rfl (FLe.same rfl FLe.nil)))))) HLv.nil) (Ghost.rn [0] rfl rfl (FLe.le rfl (by first | exact V.le_refl _ _ | (simp only [len_set, len_cpy]; exact V.le_refl _ _)) (FLe.same rfl (FLe.same rfl (FLe.same rfl (FLe.same rfl (FLe.same rfl FLe.nil)))))) (HLe.live rfl V.les_nil rfl HLe.nil) rfl))⟩ (by rintro s h ⟨_, _, _, _, h0, _⟩; simp [address_Back_L4] at h0) ?_
    rintro m4 s h ⟨held_1, vn_1, x22, l0_1, hr4, hg⟩
    refine AB.ghost hg ?_
    clear hg hL4
    rw [address_Back_L4] at hr4
    refine AB.seq ?_
    refine AB.rw ?_
    refine wS (v := (eB (decide (x22 < (d.length : Int))))) (sv (d_bin rfl rfl (bin_lss ..))) ?_
    refine OpsW.nil ?_
    refine Ex.then_mk ?_
    refine AB.seq ?_
    refine AB.cnd rfl (fun h3 => ?_) (fun h3 => ?_)
    · replace hr4 := iteT hr4 h3
      refine AB.skip ?_
      refine Ex.then_mk ?_
      refine AB.seq_g fun K5 hK5 hG5 => ?_
      have J5 : ∀ (held_2 : Int) (vn_2 : Int) (l0_2 : List Int), address_Back_J5 N d x22 (address_Back_L4 N d m4) held_2 vn_2 l0_2 = some res4 → K5 (mkF 57 [(6, (.sl 0 0 l0_2.length 1 false)), (7, (eI .u32 held_2)), (8, (eI .i64 vn_2)), (20, (.row none 1 (d.map (eI .u8)))), (21, (eI .i64 (d.length : Int))), (22, (eI .i64 x22))]) [some ⟨5, l0_2.map (eI .u8)⟩] := by
        intro held_2 vn_2 l0_2 hr4
        unfold address_Back_J5 at hr4
        refine hK5 _ _ ?_
        refine AB.rw ?_
        refine wS (v := (eI .i64 (IntKind.i64.wrap (x22 + 1)))) (sv (d_bin rfl rfl (bin_add ..))) ?_
        refine wS (v := (eI .i64 (IntKind.i64.wrap (x22 + 1)))) (sv (d_move rfl)) ?_
        refine OpsW.nil ?_
        refine Ex.then_mk ?_
        exact ⟨held_2, vn_2, IntKind.i64.wrap (x22 + 1), l0_2, hr4, (Ghost.rn [0] rfl rfl (FLe.same rfl (FLe.same rfl (FLe.same rfl (FLe.same rfl (FLe.same rfl (FLe.same rfl FLe.nil)))))) (HLe.live rfl (les_map (fun _ => rfl) _) (all_map (fun _ => rfl) _) HLe.nil) rfl)⟩
      refine AB.block ?_
      refine AB.seq ?_
      replace hr4 := bnd hr4; obtain ⟨x24, h_4, hr4⟩ := hr4
      refine AB.rw ?_
      refine wS (sv (d_ia rfl rfl (iaR ti22 ti5 h_4))) ?_
      refine wS (v := (eI .u8 x24)) (sv (d_load rfl (ldR h_4 (part1 ti5 rfl rfl)))) ?_
      refine wS (v := (eI .u8 x24)) (sv (d_assign rfl)) ?_
      refine OpsW.nil ?_
      refine Ex.then_mk ?_
      refine AB.seq ?_
      replace hr4 := bnd hr4; obtain ⟨x27, h_5, hr4⟩ := hr4
      refine AB.rw ?_
      refine wS (v := (eI .u32 held_1)) (sv (d_move rfl)) ?_
      refine wS (v := (eI .u32 x27)) (sv (d_bin rfl rfl (bin_shl' _ _ _ _ h_5))) ?_
      refine wS (v := (eI .u8 x24)) (sv (d_move rfl)) ?_
      refine wS (v := (eI .u32 (IntKind.u32.wrap x24))) (sv (d_conv rfl (conv_int _ ⟨_, ti5⟩ ti35 rfl))) ?_
      refine wS (v := (eI .u32 (bits .or .u32 x27 (IntKind.u32.wrap x24)))) (sv (d_bin rfl rfl (bin_or ..))) ?_
      refine wS (v := (eI .u32 (bits .or .u32 x27 (IntKind.u32.wrap x24)))) (sv (d_assign rfl)) ?_
      refine OpsW.nil ?_
      refine Ex.then_mk ?_
      refine AB.seq ?_
      refine AB.rw ?_
      refine wS (v := (eI .i64 vn_1)) (sv (d_move rfl)) ?_
      refine wS (v := (eI .i64 (IntKind.i64.wrap (vn_1 + 5)))) (sv (d_bin rfl rfl (bin_add ..))) ?_
      refine wS (v := (eI .i64 (IntKind.i64.wrap (vn_1 + 5)))) (sv (d_assign rfl)) ?_
      refine OpsW.nil ?_
      refine Ex.then_mk ?_
      refine AB.seq ?_
      refine AB.rw ?_
      refine wS (v := (eI .i64 (IntKind.i64.wrap (vn_1 + 5)))) (sv (d_move rfl)) ?_
      refine wS (v := (eB (decide (8 ≤ (IntKind.i64.wrap (vn_1 + 5)))))) (sv (d_bin rfl rfl (bin_geq ..))) ?_
      refine OpsW.nil ?_
      refine Ex.then_mk ?_
      refine AB.cnd rfl (fun h6 => ?_) (fun h6 => ?_)
      · replace hr4 := iteT hr4 h6
        refine AB.seq ?_
        refine AB.rw ?_
        refine wS (v := (eI .i64 (IntKind.i64.wrap (vn_1 + 5)))) (sv (d_move rfl)) ?_
        refine wS (v := (eI .i64 (IntKind.i64.wrap ((IntKind.i64.wrap (vn_1 + 5)) - 8)))) (sv (d_bin rfl rfl (bin_sub ..))) ?_
        refine wS (v := (eI .i64 (IntKind.i64.wrap ((IntKind.i64.wrap (vn_1 + 5)) - 8)))) (sv (d_assign rfl)) ?_
        refine OpsW.nil ?_
        refine Ex.then_mk ?_
        refine AB.seq ?_
        replace hr4 := bnd hr4; obtain ⟨x40, h_7, hr4⟩ := hr4
        replace hr4 := bnd hr4; obtain ⟨x43, h_8, hr4⟩ := hr4
        refine AB.rw ?_
        refine wS (v := (.sl 0 0 l0_1.length 1 false)) (sv (d_move rfl)) ?_
        refine wS (v := (eI .u32 (bits .or .u32 x27 (IntKind.u32.wrap x24)))) (sv (d_move rfl)) ?_
        refine wS (v := (eI .i64 (IntKind.i64.wrap ((IntKind.i64.wrap (vn_1 + 5)) - 8)))) (sv (d_move rfl)) ?_
        refine wS (v := (eI .u32 x40)) (sv (d_bin rfl rfl (bin_shr' _ _ _ _ h_7))) ?_
        refine wS (v := (eI .u8 (IntKind.u8.wrap x40))) (sv (d_conv rfl (conv_int _ ⟨_, ti35⟩ ti5 rfl))) ?_
        refine wS (v := (.sl 1 0 1 1 false)) (h' := [some ⟨5, l0_1.map (eI .u8)⟩, some ⟨5, [IntKind.u8.wrap x40].map (eI .u8)⟩]) (sv (d_buildS rfl (bldL1 (xs := [IntKind.u8.wrap x40].map (eI .u8)) ti22 ti5 (Nat.le_of_ble_eq_true rfl) (Nat.le_of_ble_eq_true rfl) rfl rfl rfl rfl rfl rfl rfl))) ?_
        refine wS (v := (.sl 2 0 x43.length 1 false)) (h' := [none, some ⟨5, [IntKind.u8.wrap x40].map (eI .u8)⟩, some ⟨5, x43.map (eI .u8)⟩]) (sv (d_append rfl rfl (appS (E := (eI .u8)) rfl ti22 ti5 ⟨rfl, rfl, Nat.le_of_ble_eq_true rfl⟩ rfl (srcS rfl rfl) h_8 rfl rfl))) ?_
        refine wS (v := (.sl 2 0 x43.length 1 false)) (sv (d_assign rfl)) ?_
        refine OpsW.nil ?_
        refine Ex.then_mk ?_
        replace hr4 := bnd hr4; obtain ⟨x46, h_9, hr4⟩ := hr4
        refine AB.rw ?_
        refine wS (v := (eI .u32 (bits .or .u32 x27 (IntKind.u32.wrap x24)))) (sv (d_move rfl)) ?_
        refine wS (v := (eI .i64 (IntKind.i64.wrap ((IntKind.i64.wrap (vn_1 + 5)) - 8)))) (sv (d_move rfl)) ?_
        refine wS (v := (eI .u32 x46)) (sv (d_bin rfl rfl (bin_shl' _ _ _ _ h_9))) ?_
        refine wS (v := (eI .u32 (IntKind.u32.wrap (x46 - 1)))) (sv (d_bin rfl rfl (bin_sub ..))) ?_
        refine wS (v := (eI .u32 (bits .and .u32 (bits .or .u32 x27 (IntKind.u32.wrap x24)) (IntKind.u32.wrap (x46 - 1))))) (sv (d_bin rfl rfl (bin_and ..))) ?_
        refine wS (v := (eI .u32 (bits .and .u32 (bits .or .u32 x27 (IntKind.u32.wrap x24)) (IntKind.u32.wrap (x46 - 1))))) (sv (d_assign rfl)) ?_
        refine OpsW.nil ?_
        refine Ex.inBlock_mk ?_
        refine Ex.then_mk ?_
        exact hG5 _ _ _ _ (Ghost.rn [2] rfl rfl (FLe.same rfl (FLe.same rfl (FLe.same rfl (FLe.same rfl (FLe.same rfl (FLe.same rfl FLe.nil)))))) (HLe.live rfl (les_map (fun _ => rfl) _) (all_map (fun _ => rfl) _) HLe.nil) rfl) (J5 (bits .and .u32 (bits .or .u32 x27 (IntKind.u32.wrap x24)) (IntKind.u32.wrap (x46 - 1))) (IntKind.i64.wrap ((IntKind.i64.wrap (vn_1 + 5)) - 8)) x43 hr4)
      · replace hr4 := iteF hr4 h6
        refine AB.skip ?_
        refine Ex.inBlock_mk ?_
        refine Ex.then_mk ?_
        exact hG5 _ _ _ _ (Ghost.rn [0] rfl rfl (FLe.same rfl (FLe.same rfl (FLe.same rfl (FLe.same rfl (FLe.same rfl (FLe.same rfl FLe.nil)))))) (HLe.live rfl (les_map (fun _ => rfl) _) (all_map (fun _ => rfl) _) HLe.nil) rfl) (J5 (bits .or .u32 x27 (IntKind.u32.wrap x24)) (IntKind.i64.wrap (vn_1 + 5)) l0_1 hr4)
    · replace hr4 := iteF hr4 h3
      refine AB.exit ?_
      refine Ex.then_exit_mk ?_
      refine Ex.then_exit_mk ?_
      refine Ex.inBlock_same_mk ?_
      obtain rfl := Option.some.inj hr4
      refine Ex.then_mk ?_
      exact hG2 _ _ _ _ (Ghost.rn [0] rfl rfl (FLe.same rfl (FLe.same rfl (FLe.same rfl FLe.nil))) (HLe.live rfl (les_map (fun _ => rfl) _) (all_map (fun _ => rfl) _) HLe.nil) rfl) (J2 held_1 vn_1 l0_1 hr)
  refine AB.seq ?_
  refine AB.rw ?_
  refine wS (v := (.row none 1 (d.map (eI .u8)))) (sv (d_move rfl)) ?_
  refine wS (v := (eI .i64 (d.length : Int))) (sv (d_len rfl (lenR ti22))) ?_
  refine wS (v := (eI .i64 0)) (sv (d_move rfl)) ?_
  refine OpsW.nil ?_
  refine Ex.then_mk ?_
  replace hr := bnd hr; obtain ⟨res6, hL6, hr⟩ := hr
  refine AB.block ?_
  refine AB.loopN (fun m s h => ∃ (x13 : Int), address_Back_L6 N d m x13 = some res6 ∧ Ghost 0 s h (mkF 57 [(0, (.row none 1 (d.map (eI .u8)))), (11, (.row none 1 (d.map (eI .u8)))), (12, (eI .i64 (d.length : Int))), (13, (eI .i64 x13))]) []) (n := N) ⟨0, hL6, (Ghost.rn [] rfl rfl (FLe.same rfl (FLe.same rfl (FLe.same rfl (FLe.same rfl FLe.nil)))) HLe.nil rfl)⟩ (by rintro s h ⟨_, h0, _⟩; simp [address_Back_L6] at h0) ?_
  rintro m6 s h ⟨x13, hr6, hg⟩
  refine AB.ghost hg ?_
  clear hg hL6
  rw [address_Back_L6] at hr6
  refine AB.seq ?_
  refine AB.rw ?_
  refine wS (v := (eB (decide (x13 < (d.length : Int))))) (sv (d_bin rfl rfl (bin_lss ..))) ?_
  refine OpsW.nil ?_
  refine Ex.then_mk ?_
  refine AB.seq ?_
  refine AB.cnd rfl (fun h10 => ?_) (fun h10 => ?_)
  · replace hr6 := iteT hr6 h10
    refine AB.skip ?_
    refine Ex.then_mk ?_
    refine AB.seq ?_
    refine AB.block ?_
    refine AB.seq ?_
    replace hr6 := bnd hr6; obtain ⟨x15, h_11, hr6⟩ := hr6
    refine AB.rw ?_
    refine wS (sv (d_ia rfl rfl (iaR ti22 ti5 h_11))) ?_
    refine wS (v := (eI .u8 x15)) (sv (d_load rfl (ldR h_11 (part1 ti5 rfl rfl)))) ?_
    refine wS (v := (eI .u8 x15)) (sv (d_assign rfl)) ?_
    refine OpsW.nil ?_
    refine Ex.then_mk ?_
    refine AB.seq ?_
    refine AB.rw ?_
    refine wS (v := (eI .u8 x15)) (sv (d_move rfl)) ?_
    refine wS (v := (eB (decide (31 < x15)))) (sv (d_bin rfl rfl (bin_gtr ..))) ?_
    refine OpsW.nil ?_
    refine Ex.then_mk ?_
    refine AB.cnd rfl (fun h12 => ?_) (fun h12 => ?_)
    · replace hr6 := iteT hr6 h12
      refine AB.seq ?_
      refine AB.rw ?_
      refine wS (v := (.row (some true) 1 [])) (sv (d_assign rfl)) ?_
      refine wS (v := (eI .i64 5)) (sv (d_assign rfl)) ?_
      refine OpsW.nil ?_
      refine Ex.then_mk ?_
      refine AB.ret ?_
      refine Ex.inBlock_ret_mk ?_
      refine Ex.then_ret_mk ?_
      refine Ex.then_ret_mk ?_
      refine Ex.inBlock_ret_mk ?_
      refine Ex.then_ret_mk ?_
      obtain rfl := Option.some.inj hr6
      obtain rfl := Option.some.inj hr
      exact done_ret (r1 := (.tup [(.row (some true) 1 []), (eI .i64 5)])) (res2 Try.results7 (rvT rfl) (rvT rfl)) (Ghost.trans (Ghost.virt (fr' := [(0, (.tup [(.sl 0 0 0 1 false), (eI .i64 5)]))]) (h1 := []) 5 (FLe.le rfl (V.le_tup (V.les_cons (V.le_virt rfl) (V.les_cons (V.le_refl _ _) V.les_nil))) FLe.nil) HLv.nil) (Ghost.rn [0] rfl rfl (FLe.le rfl (V.le_tup (V.les_cons (by first | exact V.le_refl _ _ | (simp only [len_set, len_cpy]; exact V.le_refl _ _)) (V.les_cons (V.le_refl _ _) V.les_nil))) FLe.nil) (HLe.live rfl V.les_nil rfl HLe.nil) rfl))
    · replace hr6 := iteF hr6 h12
      refine AB.skip ?_
      refine Ex.inBlock_mk ?_
      refine Ex.then_mk ?_
      refine AB.rw ?_
      refine wS (v := (eI .i64 (IntKind.i64.wrap (x13 + 1)))) (sv (d_bin rfl rfl (bin_add ..))) ?_
      refine wS (v := (eI .i64 (IntKind.i64.wrap (x13 + 1)))) (sv (d_move rfl)) ?_
      refine OpsW.nil ?_
      refine Ex.then_mk ?_
      exact ⟨IntKind.i64.wrap (x13 + 1), hr6, (Ghost.rn [] rfl rfl (FLe.same rfl (FLe.same rfl (FLe.same rfl (FLe.same rfl FLe.nil)))) HLe.nil rfl)⟩
  · replace hr6 := iteF hr6 h10
    refine AB.exit ?_
    refine Ex.then_exit_mk ?_
    refine Ex.then_exit_mk ?_
    refine Ex.inBlock_same_mk ?_
    obtain rfl := Option.some.inj hr6
    refine Ex.then_mk ?_
    exact hG1 _ _ _ _ (Ghost.rn [] rfl rfl (FLe.same rfl FLe.nil) HLe.nil rfl) (J1 hr)
set_option maxRecDepth 20000 in
set_option maxHeartbeats 1000000 in
theorem law27_sane_ok (N : Nat) (r : Bool) (hr : law27_sane N = some r) :
    Vm.Fn Try.prog 5 [] [] (eB r) [] := by
  refine fn_ab Try.func5 rfl (by kernel_rfl) Try.ntmps5 (Nat.le_of_ble_eq_true rfl) rfl (fr := []) rfl ?_
  unfold law27_sane at hr
  refine AB.seq ?_
  refine AB.rw ?_
  refine wS (v := (eB false)) (sv (d_assign rfl)) ?_
  refine OpsW.nil ?_
  refine Ex.then_mk ?_
  refine AB.seq ?_
  replace hr := bnd hr; obtain ⟨x5, h_1, hr⟩ := hr
  refine AB.rw ?_
  refine wS (v := (.sl 0 0 1 1 false)) (h' := [some ⟨5, [255].map (eI .u8)⟩]) (sv (d_buildS rfl (bldL1 (xs := [255].map (eI .u8)) ti22 ti5 (Nat.le_of_ble_eq_true rfl) (Nat.le_of_ble_eq_true rfl) rfl rfl rfl rfl rfl rfl rfl))) ?_
  refine wC (v := (.sl 1 0 x5.length 1 false)) (h' := [some ⟨5, [255].map (eI .u8)⟩, some ⟨5, x5.map (eI .u8)⟩]) rfl (Vm.Fn.lendR (address_Convert_ok N [255] x5 h_1) [] [0] (by decide) rfl (by decide) Lend.nil (Brw.row (exp_slT rfl rfl (fun _ => rfl)) Brw.nil) rfl (rfB.live (rfs_map (fun _ => rfl) _) rfB.nil) rfl (by simp only [lent, lendSet, lendSet_nil, rnH, Blk.rn, V.rns, V.rn, sg, List.map_cons, List.map_nil, Option.map_some, Option.map_none, List.drop_succ_cons, List.drop_zero, List.drop_nil, List.set_cons_zero, List.set_cons_succ, List.cons_append, List.nil_append, List.append_nil, rns_eI, rns_eB, rns_eS, rns_eL, List.getElem?_cons_zero, List.getElem?_cons_succ, List.getElem?_nil, List.length_cons, List.length_nil, Nat.reduceAdd, Nat.reduceSub, Nat.add_zero, Nat.zero_add, Nat.sub_self, Nat.sub_zero])) ?_
  refine wS (v := (.sl 1 0 x5.length 1 false)) (sv (d_assign rfl)) ?_
  refine OpsW.nil ?_
  refine Ex.then_mk ?_
  refine AB.seq ?_
  replace hr := bnd hr; obtain ⟨x8, h_2, hr⟩ := hr
  refine AB.rw ?_
  refine wS (v := (.sl 2 0 2 1 false)) (h' := [some ⟨5, [255].map (eI .u8)⟩, some ⟨5, x5.map (eI .u8)⟩, some ⟨5, [31, 29].map (eI .u8)⟩]) (sv (d_buildS rfl (bldL1 (xs := [31, 29].map (eI .u8)) ti22 ti5 (Nat.le_of_ble_eq_true rfl) (Nat.le_of_ble_eq_true rfl) rfl rfl rfl rfl rfl rfl rfl))) ?_
  refine wC (v := (.tup [(.sl 3 0 x8.1.length 1 false), (eI .i64 x8.2)])) (h' := [some ⟨5, [255].map (eI .u8)⟩, some ⟨5, x5.map (eI .u8)⟩, some ⟨5, [31, 29].map (eI .u8)⟩, some ⟨5, x8.1.map (eI .u8)⟩]) rfl (Vm.Fn.lendR (address_Back_ok N [31, 29] x8 h_2) [] [2] (by decide) rfl (by decide) Lend.nil (Brw.row (exp_slT rfl rfl (fun _ => rfl)) Brw.nil) rfl (rfB.live (rfs_map (fun _ => rfl) _) rfB.nil) rfl (by simp only [lent, lendSet, lendSet_nil, rnH, Blk.rn, V.rns, V.rn, sg, List.map_cons, List.map_nil, Option.map_some, Option.map_none, List.drop_succ_cons, List.drop_zero, List.drop_nil, List.set_cons_zero, List.set_cons_succ, List.cons_append, List.nil_append, List.append_nil, rns_eI, rns_eB, rns_eS, rns_eL, List.getElem?_cons_zero, List.getElem?_cons_succ, List.getElem?_nil, List.length_cons, List.length_nil, Nat.reduceAdd, Nat.reduceSub, Nat.add_zero, Nat.zero_add, Nat.sub_self, Nat.sub_zero])) ?_
  refine wS (v := (.tup [(.sl 3 0 x8.1.length 1 false), (eI .i64 x8.2)])) (sv (d_move rfl)) ?_
  refine wS (v := (.sl 3 0 x8.1.length 1 false)) (sv (d_ext rfl rfl)) ?_
  refine wS (v := (eI .i64 x8.2)) (sv (d_ext rfl rfl)) ?_
  refine wS (v := (.sl 3 0 x8.1.length 1 false)) (sv (d_assign rfl)) ?_
  refine wS (v := (eI .i64 x8.2)) (sv (d_assign rfl)) ?_
  refine OpsW.nil ?_
  refine Ex.then_mk ?_
  refine AB.seq_g fun K1 hK1 hG1 => ?_
  have J1 : ∀ (x0 : Bool), law27_sane_J1 N x0 = some r → K1 (mkF 30 [(0, (eB x0))]) [] := by
    intro x0 hr
    unfold law27_sane_J1 at hr
    refine hK1 _ _ ?_
    refine AB.ret ?_
    obtain rfl := Option.some.inj hr
    exact done_ret (r1 := (eB x0)) (res1 Try.results5 (rvT rfl)) (Ghost.rn [] rfl rfl (FLe.same rfl FLe.nil) HLe.nil rfl)
  rcases Bool.eq_false_or_eq_true ((x5.length : Int) == 2) with h3 | h3
  · replace hr := iteT hr h3
    replace hr := bnd hr; obtain ⟨x16, h_4, hr⟩ := hr
    rcases Bool.eq_false_or_eq_true (x16 == 31) with h5 | h5
    · replace hr := iteT hr h5
      replace hr := bnd hr; obtain ⟨x22, h_6, hr⟩ := hr
      rcases Bool.eq_false_or_eq_true (x22 == 28) with h7 | h7
      · replace hr := iteT hr h7
        refine AB.rw ?_
        refine wS (v := (.sl 1 0 x5.length 1 false)) (sv (d_move rfl)) ?_
        refine wS (v := (eI .i64 (x5.length : Int))) (sv (d_len rfl (lenS ti22))) ?_
        refine wS (v := (eB ((x5.length : Int) == 2))) (sv (d_bin rfl rfl (bin_eql ..))) ?_
        refine wS (v := (eB ((x5.length : Int) == 2))) (sv (d_move rfl)) ?_
        refine wS (v := (.sl 1 0 x5.length 1 false)) (svG rfl rfl h3 (d_move rfl)) ?_
        refine wS (v := (.ptr 1 (Int.toNat 0))) (svG rfl rfl h3 (d_ia rfl rfl (iaS rfl ti22 ti5 rfl h_4))) ?_
        refine wS (v := (eI .u8 x16)) (svG rfl rfl h3 (d_load rfl (ldX (E := (eI .u8)) (y := x16) ti5 rfl rfl h_4))) ?_
        refine wS (v := (eB (x16 == 31))) (svG rfl rfl h3 (d_bin rfl rfl (bin_eql ..))) ?_
        refine wS (v := (eB (x16 == 31))) (sv (d_pickT rfl h3 rfl)) ?_
        refine wS (v := (eB (x16 == 31))) (sv (d_move rfl)) ?_
        refine wS (v := (.sl 1 0 x5.length 1 false)) (svG rfl rfl h5 (d_move rfl)) ?_
        refine wS (v := (.ptr 1 (Int.toNat 1))) (svG rfl rfl h5 (d_ia rfl rfl (iaS rfl ti22 ti5 rfl h_6))) ?_
        refine wS (v := (eI .u8 x22)) (svG rfl rfl h5 (d_load rfl (ldX (E := (eI .u8)) (y := x22) ti5 rfl rfl h_6))) ?_
        refine wS (v := (eB (x22 == 28))) (svG rfl rfl h5 (d_bin rfl rfl (bin_eql ..))) ?_
        refine wS (v := (eB (x22 == 28))) (sv (d_pickT rfl h5 rfl)) ?_
        refine wS (v := (eB (x22 == 28))) (sv (d_move rfl)) ?_
        refine wS (v := (eI .i64 x8.2)) (svG rfl rfl h7 (d_move rfl)) ?_
        refine wS (v := (eB (x8.2 == 3))) (svG rfl rfl h7 (d_bin rfl rfl (bin_eql ..))) ?_
        refine wS (v := (eB (x8.2 == 3))) (sv (d_pickT rfl h7 rfl)) ?_
        refine wS (v := (eB (x8.2 == 3))) (sv (d_assign rfl)) ?_
        refine OpsW.nil ?_
        refine Ex.then_mk ?_
        exact hG1 _ _ _ _ (Ghost.rn [] rfl rfl (FLe.same rfl FLe.nil) HLe.nil rfl) (J1 (x8.2 == 3) hr)
      · replace hr := iteF hr h7
        refine AB.rw ?_
        refine wS (v := (.sl 1 0 x5.length 1 false)) (sv (d_move rfl)) ?_
        refine wS (v := (eI .i64 (x5.length : Int))) (sv (d_len rfl (lenS ti22))) ?_
        refine wS (v := (eB ((x5.length : Int) == 2))) (sv (d_bin rfl rfl (bin_eql ..))) ?_
        refine wS (v := (eB ((x5.length : Int) == 2))) (sv (d_move rfl)) ?_
        refine wS (v := (.sl 1 0 x5.length 1 false)) (svG rfl rfl h3 (d_move rfl)) ?_
        refine wS (v := (.ptr 1 (Int.toNat 0))) (svG rfl rfl h3 (d_ia rfl rfl (iaS rfl ti22 ti5 rfl h_4))) ?_
        refine wS (v := (eI .u8 x16)) (svG rfl rfl h3 (d_load rfl (ldX (E := (eI .u8)) (y := x16) ti5 rfl rfl h_4))) ?_
        refine wS (v := (eB (x16 == 31))) (svG rfl rfl h3 (d_bin rfl rfl (bin_eql ..))) ?_
        refine wS (v := (eB (x16 == 31))) (sv (d_pickT rfl h3 rfl)) ?_
        refine wS (v := (eB (x16 == 31))) (sv (d_move rfl)) ?_
        refine wS (v := (.sl 1 0 x5.length 1 false)) (svG rfl rfl h5 (d_move rfl)) ?_
        refine wS (v := (.ptr 1 (Int.toNat 1))) (svG rfl rfl h5 (d_ia rfl rfl (iaS rfl ti22 ti5 rfl h_6))) ?_
        refine wS (v := (eI .u8 x22)) (svG rfl rfl h5 (d_load rfl (ldX (E := (eI .u8)) (y := x22) ti5 rfl rfl h_6))) ?_
        refine wS (v := (eB (x22 == 28))) (svG rfl rfl h5 (d_bin rfl rfl (bin_eql ..))) ?_
        refine wS (v := (eB (x22 == 28))) (sv (d_pickT rfl h5 rfl)) ?_
        refine wS (v := (eB (x22 == 28))) (sv (d_move rfl)) ?_
        refine wS (svX rfl rfl h7) ?_
        refine wS (svX rfl rfl h7) ?_
        refine wS (v := (eB false)) (sv (d_pickF rfl h7 rfl)) ?_
        refine wS (v := (eB false)) (sv (d_assign rfl)) ?_
        refine OpsW.nil ?_
        refine Ex.then_mk ?_
        exact hG1 _ _ _ _ (Ghost.rn [] rfl rfl (FLe.same rfl FLe.nil) HLe.nil rfl) (J1 false hr)
    · replace hr := iteF hr h5
      refine AB.rw ?_
      refine wS (v := (.sl 1 0 x5.length 1 false)) (sv (d_move rfl)) ?_
      refine wS (v := (eI .i64 (x5.length : Int))) (sv (d_len rfl (lenS ti22))) ?_
      refine wS (v := (eB ((x5.length : Int) == 2))) (sv (d_bin rfl rfl (bin_eql ..))) ?_
      refine wS (v := (eB ((x5.length : Int) == 2))) (sv (d_move rfl)) ?_
      refine wS (v := (.sl 1 0 x5.length 1 false)) (svG rfl rfl h3 (d_move rfl)) ?_
      refine wS (v := (.ptr 1 (Int.toNat 0))) (svG rfl rfl h3 (d_ia rfl rfl (iaS rfl ti22 ti5 rfl h_4))) ?_
      refine wS (v := (eI .u8 x16)) (svG rfl rfl h3 (d_load rfl (ldX (E := (eI .u8)) (y := x16) ti5 rfl rfl h_4))) ?_
      refine wS (v := (eB (x16 == 31))) (svG rfl rfl h3 (d_bin rfl rfl (bin_eql ..))) ?_
      refine wS (v := (eB (x16 == 31))) (sv (d_pickT rfl h3 rfl)) ?_
      refine wS (v := (eB (x16 == 31))) (sv (d_move rfl)) ?_
      refine wS (svX rfl rfl h5) ?_
      refine wS (svX rfl rfl h5) ?_
      refine wS (svX rfl rfl h5) ?_
      refine wS (svX rfl rfl h5) ?_
      refine wS (v := (eB false)) (sv (d_pickF rfl h5 rfl)) ?_
      refine wS (v := (eB false)) (sv (d_move rfl)) ?_
      refine wS (svX rfl rfl rfl) ?_
      refine wS (svX rfl rfl rfl) ?_
      refine wS (v := (eB false)) (sv (d_pickF rfl rfl rfl)) ?_
      refine wS (v := (eB false)) (sv (d_assign rfl)) ?_
      refine OpsW.nil ?_
      refine Ex.then_mk ?_
      exact hG1 _ _ _ _ (Ghost.rn [] rfl rfl (FLe.same rfl FLe.nil) HLe.nil rfl) (J1 false hr)
  · replace hr := iteF hr h3
    refine AB.rw ?_
    refine wS (v := (.sl 1 0 x5.length 1 false)) (sv (d_move rfl)) ?_
    refine wS (v := (eI .i64 (x5.length : Int))) (sv (d_len rfl (lenS ti22))) ?_
    refine wS (v := (eB ((x5.length : Int) == 2))) (sv (d_bin rfl rfl (bin_eql ..))) ?_
    refine wS (v := (eB ((x5.length : Int) == 2))) (sv (d_move rfl)) ?_
    refine wS (svX rfl rfl h3) ?_
    refine wS (svX rfl rfl h3) ?_
    refine wS (svX rfl rfl h3) ?_
    refine wS (svX rfl rfl h3) ?_
    refine wS (v := (eB false)) (sv (d_pickF rfl h3 rfl)) ?_
    refine wS (v := (eB false)) (sv (d_move rfl)) ?_
    refine wS (svX rfl rfl rfl) ?_
    refine wS (svX rfl rfl rfl) ?_
    refine wS (svX rfl rfl rfl) ?_
    refine wS (svX rfl rfl rfl) ?_
    refine wS (v := (eB false)) (sv (d_pickF rfl rfl rfl)) ?_
    refine wS (v := (eB false)) (sv (d_move rfl)) ?_
    refine wS (svX rfl rfl rfl) ?_
    refine wS (svX rfl rfl rfl) ?_
    refine wS (v := (eB false)) (sv (d_pickF rfl rfl rfl)) ?_
    refine wS (v := (eB false)) (sv (d_assign rfl)) ?_
    refine OpsW.nil ?_
    refine Ex.then_mk ?_
    exact hG1 _ _ _ _ (Ghost.rn [] rfl rfl (FLe.same rfl FLe.nil) HLe.nil rfl) (J1 false hr)
set_option maxRecDepth 20000 in
set_option maxHeartbeats 1000000 in
theorem ref27_Convert_ok (N : Nat) (b : List Int) (r : (List Int)) (hr : ref27_Convert N b = some r) :
    Vm.Fn Try.prog 6 [] [(.row none 1 (b.map (eI .u8)))] (.sl 0 0 r.length 1 false) [some ⟨5, r.map (eI .u8)⟩] := by
  refine fn_ab Try.func6 rfl (by kernel_rfl) Try.ntmps6 (Nat.le_of_ble_eq_true rfl) rfl (fr := [(0, (.row none 1 (b.map (eI .u8))))]) rfl ?_
  unfold ref27_Convert at hr
  refine AB.seq ?_
  refine AB.rw ?_
  refine wS (v := (.row (some true) 1 [])) (sv (d_assign rfl)) ?_
  refine OpsW.nil ?_
  refine Ex.then_mk ?_
  refine AB.seq ?_
  refine AB.rw ?_
  refine wS (v := (.row (some true) 1 [])) (sv (d_assign rfl)) ?_
  refine OpsW.nil ?_
  refine Ex.then_mk ?_
  refine AB.seq_g fun K1 hK1 hG1 => ?_
  have J1 : ∀ (l0 : List Int), ref27_Convert_J1 N l0 = some r → K1 (mkF 46 [(3, (.sl 0 0 l0.length 1 false))]) [some ⟨5, l0.map (eI .u8)⟩] := by
    intro l0 hr
    unfold ref27_Convert_J1 at hr
    refine hK1 _ _ ?_
    refine AB.seq ?_
    refine AB.rw ?_
    refine wS (v := (.sl 0 0 l0.length 1 false)) (sv (d_move rfl)) ?_
    refine wS (v := (.sl 0 0 l0.length 1 false)) (sv (d_assign rfl)) ?_
    refine OpsW.nil ?_
    refine Ex.then_mk ?_
    refine AB.ret ?_
    obtain rfl := Option.some.inj hr
    exact done_ret (r1 := (.sl 0 0 l0.length 1 false)) (res1 Try.results6 (rvT rfl)) (Ghost.rn [0] rfl rfl (FLe.same rfl FLe.nil) (HLe.live rfl (les_map (fun _ => rfl) _) (all_map (fun _ => rfl) _) HLe.nil) rfl)
  refine AB.seq ?_
  refine AB.rw ?_
  refine wS (v := (eI .i64 0)) (sv (d_assign rfl)) ?_
  refine OpsW.nil ?_
  refine Ex.then_mk ?_
  replace hr := bnd hr; obtain ⟨res2, hL2, hr⟩ := hr
  refine AB.block ?_
  refine AB.loopN (fun m s h => ∃ (vat : Int) (l0_1 : List Int), ref27_Convert_L2 N b m vat l0_1 = some res2 ∧ Ghost 0 s h (mkF 46 [(0, (.row none 1 (b.map (eI .u8)))), (3, (.sl 0 0 l0_1.length 1 false)), (4, (eI .i64 vat))]) [some ⟨5, l0_1.map (eI .u8)⟩]) (n := N) ⟨0, [], hL2, (Ghost.trans (Ghost.virt (fr' := [(0, (.row none 1 (b.map (eI .u8)))), (3, (.sl 0 0 0 1 false)), (4, (eI .i64 0))]) (h1 := []) 5 (FLe.same rfl (FLe.le rfl (V.le_virt rfl) (FLe.same rfl FLe.nil))) HLv.nil) (Ghost.rn [0] rfl rfl (FLe.same rfl (FLe.le rfl (by first | exact V.le_refl _ _ | (simp only [len_set, len_cpy]; exact V.le_refl _ _)) (FLe.same rfl FLe.nil))) (HLe.live rfl V.les_nil rfl HLe.nil) rfl))⟩ (by rintro s h ⟨_, _, h0, _⟩; simp [ref27_Convert_L2] at h0) ?_
  rintro m2 s h ⟨vat, l0_1, hr2, hg⟩
  refine AB.ghost hg ?_
  clear hg hL2
  rw [ref27_Convert_L2] at hr2
  refine AB.seq ?_
  refine AB.seq ?_
  refine AB.rw ?_
  refine wS (v := (eI .i64 vat)) (sv (d_move rfl)) ?_
  refine wS (v := (.row none 1 (b.map (eI .u8)))) (sv (d_move rfl)) ?_
  refine wS (v := (eI .i64 (b.length : Int))) (sv (d_len rfl (lenR ti22))) ?_
  refine wS (v := (eI .i64 (IntKind.i64.wrap (8 * (b.length : Int))))) (sv (d_bin rfl rfl (bin_mul ..))) ?_
  refine wS (v := (eB (decide (vat < (IntKind.i64.wrap (8 * (b.length : Int))))))) (sv (d_bin rfl rfl (bin_lss ..))) ?_
  refine OpsW.nil ?_
  refine Ex.then_mk ?_
  refine AB.cnd rfl (fun h1 => ?_) (fun h1 => ?_)
  · replace hr2 := iteT hr2 h1
    refine AB.skip ?_
    refine Ex.then_mk ?_
    refine AB.seq_g fun K3 hK3 hG3 => ?_
    have J3 : ∀ (l0_2 : List Int), ref27_Convert_J3 N b vat (ref27_Convert_L2 N b m2) l0_2 = some res2 → K3 (mkF 46 [(0, (.row none 1 (b.map (eI .u8)))), (3, (.sl 0 0 l0_2.length 1 false)), (4, (eI .i64 vat))]) [some ⟨5, l0_2.map (eI .u8)⟩] := by
      intro l0_2 hr2
      unfold ref27_Convert_J3 at hr2
      refine hK3 _ _ ?_
      refine AB.rw ?_
      refine wS (v := (eI .i64 vat)) (sv (d_move rfl)) ?_
      refine wS (v := (eI .i64 (IntKind.i64.wrap (vat + 5)))) (sv (d_bin rfl rfl (bin_add ..))) ?_
      refine wS (v := (eI .i64 (IntKind.i64.wrap (vat + 5)))) (sv (d_assign rfl)) ?_
      refine OpsW.nil ?_
      refine Ex.then_mk ?_
      exact ⟨IntKind.i64.wrap (vat + 5), l0_2, hr2, (Ghost.rn [0] rfl rfl (FLe.same rfl (FLe.same rfl (FLe.same rfl FLe.nil))) (HLe.live rfl (les_map (fun _ => rfl) _) (all_map (fun _ => rfl) _) HLe.nil) rfl)⟩
    refine AB.block ?_
    refine AB.seq ?_
    refine AB.rw ?_
    refine wS (v := (eI .u8 0)) (sv (d_assign rfl)) ?_
    refine OpsW.nil ?_
    refine Ex.then_mk ?_
    refine AB.seq_g fun K4 hK4 hG4 => ?_
    have J4 : ∀ (d : Int), ref27_Convert_J4 N b vat l0_1 (ref27_Convert_L2 N b m2) d = some res2 → K4 (mkF 46 [(0, (.row none 1 (b.map (eI .u8)))), (3, (.sl 0 0 l0_1.length 1 false)), (4, (eI .i64 vat)), (5, (eI .u8 d))]) [some ⟨5, l0_1.map (eI .u8)⟩] := by
      intro d hr2
      unfold ref27_Convert_J4 at hr2
      refine hK4 _ _ ?_
      replace hr2 := bnd hr2; obtain ⟨x44, h_2, hr2⟩ := hr2
      refine AB.rw ?_
      refine wS (v := (.sl 0 0 l0_1.length 1 false)) (sv (d_move rfl)) ?_
      refine wS (v := (eI .u8 d)) (sv (d_move rfl)) ?_
      refine wS (v := (.sl 1 0 1 1 false)) (h' := [some ⟨5, l0_1.map (eI .u8)⟩, some ⟨5, [d].map (eI .u8)⟩]) (sv (d_buildS rfl (bldL1 (xs := [d].map (eI .u8)) ti22 ti5 (Nat.le_of_ble_eq_true rfl) (Nat.le_of_ble_eq_true rfl) rfl rfl rfl rfl rfl rfl rfl))) ?_
      refine wS (v := (.sl 2 0 x44.length 1 false)) (h' := [none, some ⟨5, [d].map (eI .u8)⟩, some ⟨5, x44.map (eI .u8)⟩]) (sv (d_append rfl rfl (appS (E := (eI .u8)) rfl ti22 ti5 ⟨rfl, rfl, Nat.le_of_ble_eq_true rfl⟩ rfl (srcS rfl rfl) h_2 rfl rfl))) ?_
      refine wS (v := (.sl 2 0 x44.length 1 false)) (sv (d_assign rfl)) ?_
      refine OpsW.nil ?_
      refine Ex.inBlock_mk ?_
      refine Ex.then_mk ?_
      exact hG3 _ _ _ _ (Ghost.rn [2] rfl rfl (FLe.same rfl (FLe.same rfl (FLe.same rfl FLe.nil))) (HLe.live rfl (les_map (fun _ => rfl) _) (all_map (fun _ => rfl) _) HLe.nil) rfl) (J3 x44 hr2)
    refine AB.seq ?_
    refine AB.rw ?_
    refine wS (v := (eI .i64 vat)) (sv (d_move rfl)) ?_
    refine wS (v := (eI .i64 vat)) (sv (d_assign rfl)) ?_
    refine OpsW.nil ?_
    refine Ex.then_mk ?_
    replace hr2 := bnd hr2; obtain ⟨res5, hL5, hr2⟩ := hr2
    refine AB.block ?_
    refine AB.loopN (fun m s h => ∃ (d_1 : Int) (vi : Int), ref27_Convert_L5 N b vat l0_1 m d_1 vi = some res5 ∧ Ghost 0 s h (mkF 46 [(0, (.row none 1 (b.map (eI .u8)))), (3, (.sl 0 0 l0_1.length 1 false)), (4, (eI .i64 vat)), (5, (eI .u8 d_1)), (6, (eI .i64 vi))]) [some ⟨5, l0_1.map (eI .u8)⟩]) (n := N) ⟨0, vat, hL5, (Ghost.rn [0] rfl rfl (FLe.same rfl (FLe.same rfl (FLe.same rfl (FLe.same rfl (FLe.same rfl FLe.nil))))) (HLe.live rfl (les_map (fun _ => rfl) _) (all_map (fun _ => rfl) _) HLe.nil) rfl)⟩ (by rintro s h ⟨_, _, h0, _⟩; simp [ref27_Convert_L5] at h0) ?_
    rintro m5 s h ⟨d_1, vi, hr5, hg⟩
    refine AB.ghost hg ?_
    clear hg hL5
    rw [ref27_Convert_L5] at hr5
    refine AB.seq ?_
    refine AB.seq ?_
    refine AB.rw ?_
    refine wS (v := (eI .i64 vi)) (sv (d_move rfl)) ?_
    refine wS (v := (eI .i64 vat)) (sv (d_move rfl)) ?_
    refine wS (v := (eI .i64 (IntKind.i64.wrap (vat + 5)))) (sv (d_bin rfl rfl (bin_add ..))) ?_
    refine wS (v := (eB (decide (vi < (IntKind.i64.wrap (vat + 5)))))) (sv (d_bin rfl rfl (bin_lss ..))) ?_
    refine OpsW.nil ?_
    refine Ex.then_mk ?_
    refine AB.cnd rfl (fun h3 => ?_) (fun h3 => ?_)
    · replace hr5 := iteT hr5 h3
      refine AB.skip ?_
      refine Ex.then_mk ?_
      refine AB.seq_g fun K6 hK6 hG6 => ?_
      have J6 : ∀ (d_2 : Int), ref27_Convert_J6 N b vat l0_1 vi (ref27_Convert_L5 N b vat l0_1 m5) d_2 = some res5 → K6 (mkF 46 [(0, (.row none 1 (b.map (eI .u8)))), (3, (.sl 0 0 l0_1.length 1 false)), (4, (eI .i64 vat)), (5, (eI .u8 d_2)), (6, (eI .i64 vi))]) [some ⟨5, l0_1.map (eI .u8)⟩] := by
        intro d_2 hr5
        unfold ref27_Convert_J6 at hr5
        refine hK6 _ _ ?_
        refine AB.rw ?_
        refine wS (v := (eI .i64 vi)) (sv (d_move rfl)) ?_
        refine wS (v := (eI .i64 (IntKind.i64.wrap (vi + 1)))) (sv (d_bin rfl rfl (bin_add ..))) ?_
        refine wS (v := (eI .i64 (IntKind.i64.wrap (vi + 1)))) (sv (d_assign rfl)) ?_
        refine OpsW.nil ?_
        refine Ex.then_mk ?_
        exact ⟨d_2, IntKind.i64.wrap (vi + 1), hr5, (Ghost.rn [0] rfl rfl (FLe.same rfl (FLe.same rfl (FLe.same rfl (FLe.same rfl (FLe.same rfl FLe.nil))))) (HLe.live rfl (les_map (fun _ => rfl) _) (all_map (fun _ => rfl) _) HLe.nil) rfl)⟩
      refine AB.block ?_
      refine AB.seq ?_
      replace hr5 := bnd hr5; obtain ⟨x22, h_4, hr5⟩ := hr5
      refine AB.rw ?_
      refine wS (v := (eI .u8 d_1)) (sv (d_move rfl)) ?_
      refine wS (v := (eI .u8 x22)) (sv (d_bin rfl rfl (bin_shl' _ _ _ _ h_4))) ?_
      refine wS (v := (eI .u8 x22)) (sv (d_assign rfl)) ?_
      refine OpsW.nil ?_
      refine Ex.then_mk ?_
      refine AB.seq ?_
      refine AB.rw ?_
      refine wS (v := (eI .i64 vi)) (sv (d_move rfl)) ?_
      refine wS (v := (.row none 1 (b.map (eI .u8)))) (sv (d_move rfl)) ?_
      refine wS (v := (eI .i64 (b.length : Int))) (sv (d_len rfl (lenR ti22))) ?_
      refine wS (v := (eI .i64 (IntKind.i64.wrap (8 * (b.length : Int))))) (sv (d_bin rfl rfl (bin_mul ..))) ?_
      refine wS (v := (eB (decide (vi < (IntKind.i64.wrap (8 * (b.length : Int))))))) (sv (d_bin rfl rfl (bin_lss ..))) ?_
      refine OpsW.nil ?_
      refine Ex.then_mk ?_
      refine AB.cnd rfl (fun h5 => ?_) (fun h5 => ?_)
      · replace hr5 := iteT hr5 h5
        replace hr5 := bnd hr5; obtain ⟨x32, h_6, hr5⟩ := hr5
        replace hr5 := bnd hr5; obtain ⟨x38, h_7, hr5⟩ := hr5
        refine AB.rw ?_
        refine wS (v := (eI .u8 x22)) (sv (d_move rfl)) ?_
        refine wS (v := (.row none 1 (b.map (eI .u8)))) (sv (d_move rfl)) ?_
        refine wS (v := (eI .i64 vi)) (sv (d_move rfl)) ?_
        refine wS (v := (eI .i64 (IntKind.i64.wrap (Int.tdiv vi 8)))) (sv (d_bin rfl rfl (bin_quo' _ _ _ _ rfl))) ?_
        refine wS (sv (d_ia rfl rfl (iaR ti22 ti5 h_6))) ?_
        refine wS (v := (eI .u8 x32)) (sv (d_load rfl (ldR h_6 (part1 ti5 rfl rfl)))) ?_
        refine wS (v := (eI .i64 vi)) (sv (d_move rfl)) ?_
        refine wS (v := (eI .i64 (Int.tmod vi 8))) (sv (d_bin rfl rfl (bin_rem' _ _ _ _ rfl))) ?_
        refine wS (v := (eI .i64 (IntKind.i64.wrap (7 - (Int.tmod vi 8))))) (sv (d_bin rfl rfl (bin_sub ..))) ?_
        refine wS (v := (eI .u64 (IntKind.u64.wrap (IntKind.i64.wrap (7 - (Int.tmod vi 8)))))) (sv (d_conv rfl (conv_int _ ⟨_, ti3⟩ ti34 rfl))) ?_
        refine wS (v := (eI .u8 x38)) (sv (d_bin rfl rfl (bin_shr' _ _ _ _ h_7))) ?_
        refine wS (v := (eI .u8 (bits .and .u8 x38 1))) (sv (d_bin rfl rfl (bin_and ..))) ?_
        refine wS (v := (eI .u8 (bits .or .u8 x22 (bits .and .u8 x38 1)))) (sv (d_bin rfl rfl (bin_or ..))) ?_
        refine wS (v := (eI .u8 (bits .or .u8 x22 (bits .and .u8 x38 1)))) (sv (d_assign rfl)) ?_
        refine OpsW.nil ?_
        refine Ex.inBlock_mk ?_
        refine Ex.then_mk ?_
        exact hG6 _ _ _ _ (Ghost.rn [0] rfl rfl (FLe.same rfl (FLe.same rfl (FLe.same rfl (FLe.same rfl (FLe.same rfl FLe.nil))))) (HLe.live rfl (les_map (fun _ => rfl) _) (all_map (fun _ => rfl) _) HLe.nil) rfl) (J6 (bits .or .u8 x22 (bits .and .u8 x38 1)) hr5)
      · replace hr5 := iteF hr5 h5
        refine AB.skip ?_
        refine Ex.inBlock_mk ?_
        refine Ex.then_mk ?_
        exact hG6 _ _ _ _ (Ghost.rn [0] rfl rfl (FLe.same rfl (FLe.same rfl (FLe.same rfl (FLe.same rfl (FLe.same rfl FLe.nil))))) (HLe.live rfl (les_map (fun _ => rfl) _) (all_map (fun _ => rfl) _) HLe.nil) rfl) (J6 x22 hr5)
    · replace hr5 := iteF hr5 h3
      refine AB.exit ?_
      refine Ex.then_exit_mk ?_
      refine Ex.then_exit_mk ?_
      refine Ex.inBlock_same_mk ?_
      obtain rfl := Option.some.inj hr5
      refine Ex.then_mk ?_
      exact hG4 _ _ _ _ (Ghost.rn [0] rfl rfl (FLe.same rfl (FLe.same rfl (FLe.same rfl (FLe.same rfl FLe.nil)))) (HLe.live rfl (les_map (fun _ => rfl) _) (all_map (fun _ => rfl) _) HLe.nil) rfl) (J4 d_1 hr2)
  · replace hr2 := iteF hr2 h1
    refine AB.exit ?_
    refine Ex.then_exit_mk ?_
    refine Ex.then_exit_mk ?_
    refine Ex.inBlock_same_mk ?_
    obtain rfl := Option.some.inj hr2
    refine Ex.then_mk ?_
    exact hG1 _ _ _ _ (Ghost.rn [0] rfl rfl (FLe.same rfl FLe.nil) (HLe.live rfl (les_map (fun _ => rfl) _) (all_map (fun _ => rfl) _) HLe.nil) rfl) (J1 l0_1 hr)
set_option maxRecDepth 20000 in
set_option maxHeartbeats 1000000 in
theorem ref27_Back_ok (N : Nat) (d : List Int) (r : (List Int) × Int) (hr : ref27_Back N d = some r) :
    Vm.Fn Try.prog 8 [] [(.row none 1 (d.map (eI .u8)))] (.tup [(.sl 0 0 r.1.length 1 false), (eI .i64 r.2)]) [some ⟨5, r.1.map (eI .u8)⟩] := by
  refine fn_ab Try.func8 rfl (by kernel_rfl) Try.ntmps8 (Nat.le_of_ble_eq_true rfl) rfl (fr := [(0, (.row none 1 (d.map (eI .u8))))]) rfl ?_
  unfold ref27_Back at hr
  refine AB.seq ?_
  refine AB.rw ?_
  refine wS (v := (.row (some true) 1 [])) (sv (d_assign rfl)) ?_
  refine wS (v := (eI .i64 0)) (sv (d_assign rfl)) ?_
  refine OpsW.nil ?_
  refine Ex.then_mk ?_
  refine AB.seq_g fun K1 hK1 hG1 => ?_
  have J1 : ref27_Back_J1 N d = some r → K1 (mkF 74 [(0, (.row none 1 (d.map (eI .u8))))]) [] := by
    intro hr
    unfold ref27_Back_J1 at hr
    refine hK1 _ _ ?_
    refine AB.seq ?_
    replace hr := bnd hr; obtain ⟨x23, h_1, hr⟩ := hr
    refine AB.rw ?_
    refine wS (v := (.row none 1 (d.map (eI .u8)))) (sv (d_move rfl)) ?_
    refine wS (v := (eI .i64 (d.length : Int))) (sv (d_len rfl (lenR ti22))) ?_
    refine wS (v := (eI .i64 (IntKind.i64.wrap (5 * (d.length : Int))))) (sv (d_bin rfl rfl (bin_mul ..))) ?_
    refine wS (v := (eI .i64 (IntKind.i64.wrap (Int.tdiv (IntKind.i64.wrap (5 * (d.length : Int))) 8)))) (sv (d_bin rfl rfl (bin_quo' _ _ _ _ rfl))) ?_
    refine wS (v := (.sl 0 0 x23.length 1 false)) (h' := [some ⟨5, x23.map (eI .u8)⟩]) (sv (d_mk rfl rfl (mkS (E := (eI .u8)) (y := 0) ti22 ti5 ⟨Nat.le_of_ble_eq_true rfl, rfl, rfl⟩ rfl rfl rfl h_1 rfl rfl))) ?_
    refine wS (v := (.sl 0 0 x23.length 1 false)) (sv (d_assign rfl)) ?_
    refine OpsW.nil ?_
    refine Ex.then_mk ?_
    refine AB.seq_g fun K2 hK2 hG2 => ?_
    have J2 : ∀ (l0 : List Int), ref27_Back_J2 N d l0 = some r → K2 (mkF 74 [(0, (.row none 1 (d.map (eI .u8)))), (5, (.sl 0 0 l0.length 1 false))]) [some ⟨5, l0.map (eI .u8)⟩] := by
      intro l0 hr
      unfold ref27_Back_J2 at hr
      refine hK2 _ _ ?_
      refine AB.seq ?_
      refine AB.seq ?_
      refine AB.rw ?_
      refine wS (v := (.row none 1 (d.map (eI .u8)))) (sv (d_move rfl)) ?_
      refine wS (v := (eI .i64 (d.length : Int))) (sv (d_len rfl (lenR ti22))) ?_
      refine wS (v := (eI .i64 (IntKind.i64.wrap (5 * (d.length : Int))))) (sv (d_bin rfl rfl (bin_mul ..))) ?_
      refine wS (v := (.sl 0 0 l0.length 1 false)) (sv (d_move rfl)) ?_
      refine wS (v := (eI .i64 (l0.length : Int))) (sv (d_len rfl (lenS ti22))) ?_
      refine wS (v := (eI .i64 (IntKind.i64.wrap (8 * (l0.length : Int))))) (sv (d_bin rfl rfl (bin_mul ..))) ?_
      refine wS (v := (eI .i64 (IntKind.i64.wrap ((IntKind.i64.wrap (5 * (d.length : Int))) - (IntKind.i64.wrap (8 * (l0.length : Int))))))) (sv (d_bin rfl rfl (bin_sub ..))) ?_
      refine wS (v := (eB (decide (5 ≤ (IntKind.i64.wrap ((IntKind.i64.wrap (5 * (d.length : Int))) - (IntKind.i64.wrap (8 * (l0.length : Int))))))))) (sv (d_bin rfl rfl (bin_geq ..))) ?_
      refine OpsW.nil ?_
      refine Ex.then_mk ?_
      refine AB.cnd rfl (fun h2 => ?_) (fun h2 => ?_)
      · replace hr := iteT hr h2
        refine AB.seq ?_
        refine AB.rw ?_
        refine wS (v := (.row (some true) 1 [])) (sv (d_assign rfl)) ?_
        refine wS (v := (eI .i64 3)) (sv (d_assign rfl)) ?_
        refine OpsW.nil ?_
        refine Ex.then_mk ?_
        refine AB.ret ?_
        refine Ex.then_ret_mk ?_
        obtain rfl := Option.some.inj hr
        exact done_ret (r1 := (.tup [(.row (some true) 1 []), (eI .i64 3)])) (res2 Try.results8 (rvT rfl) (rvT rfl)) (Ghost.trans (Ghost.virt (fr' := [(0, (.tup [(.sl 1 0 0 1 false), (eI .i64 3)]))]) (h1 := [some ⟨5, l0.map (eI .u8)⟩]) 5 (FLe.le rfl (V.le_tup (V.les_cons (V.le_virt rfl) (V.les_cons (V.le_refl _ _) V.les_nil))) FLe.nil) (HLv.live (V.les_refl _ _) (all_map (fun _ => rfl) _) HLv.nil)) (Ghost.rn [1] rfl rfl (FLe.le rfl (V.le_tup (V.les_cons (by first | exact V.le_refl _ _ | (simp only [len_set, len_cpy]; exact V.le_refl _ _)) (V.les_cons (V.le_refl _ _) V.les_nil))) FLe.nil) (HLe.live rfl V.les_nil rfl HLe.nil) rfl))
      · replace hr := iteF hr h2
        refine AB.skip ?_
        refine Ex.then_mk ?_
        refine AB.seq ?_
        refine AB.rw ?_
        refine wS (v := (.sl 0 0 l0.length 1 false)) (sv (d_move rfl)) ?_
        refine wS (v := (.sl 0 0 l0.length 1 false)) (sv (d_assign rfl)) ?_
        refine wS (v := (eI .i64 0)) (sv (d_assign rfl)) ?_
        refine OpsW.nil ?_
        refine Ex.then_mk ?_
        refine AB.ret ?_
        obtain rfl := Option.some.inj hr
        exact done_ret (r1 := (.tup [(.sl 0 0 l0.length 1 false), (eI .i64 0)])) (res2 Try.results8 (rvT rfl) (rvT rfl)) (Ghost.rn [0] rfl rfl (FLe.same rfl FLe.nil) (HLe.live rfl (les_map (fun _ => rfl) _) (all_map (fun _ => rfl) _) HLe.nil) rfl)
    refine AB.seq ?_
    refine AB.rw ?_
    refine wS (v := (eI .i64 0)) (sv (d_assign rfl)) ?_
    refine OpsW.nil ?_
    refine Ex.then_mk ?_
    replace hr := bnd hr; obtain ⟨res3, hL3, hr⟩ := hr
    refine AB.block ?_
    refine AB.loopN (fun m s h => ∃ (vi : Int) (l0_1 : List Int), ref27_Back_L3 N d m vi l0_1 = some res3 ∧ Ghost 0 s h (mkF 74 [(0, (.row none 1 (d.map (eI .u8)))), (5, (.sl 0 0 l0_1.length 1 false)), (6, (eI .i64 vi))]) [some ⟨5, l0_1.map (eI .u8)⟩]) (n := N) ⟨0, x23, hL3, (Ghost.rn [0] rfl rfl (FLe.same rfl (FLe.same rfl (FLe.same rfl FLe.nil))) (HLe.live rfl (les_map (fun _ => rfl) _) (all_map (fun _ => rfl) _) HLe.nil) rfl)⟩ (by rintro s h ⟨_, _, h0, _⟩; simp [ref27_Back_L3] at h0) ?_
    rintro m3 s h ⟨vi, l0_1, hr3, hg⟩
    refine AB.ghost hg ?_
    clear hg hL3
    rw [ref27_Back_L3] at hr3
    refine AB.seq ?_
    refine AB.seq ?_
    refine AB.rw ?_
    refine wS (v := (eI .i64 vi)) (sv (d_move rfl)) ?_
    refine wS (v := (.row none 1 (d.map (eI .u8)))) (sv (d_move rfl)) ?_
    refine wS (v := (eI .i64 (d.length : Int))) (sv (d_len rfl (lenR ti22))) ?_
    refine wS (v := (eI .i64 (IntKind.i64.wrap (5 * (d.length : Int))))) (sv (d_bin rfl rfl (bin_mul ..))) ?_
    refine wS (v := (eB (decide (vi < (IntKind.i64.wrap (5 * (d.length : Int))))))) (sv (d_bin rfl rfl (bin_lss ..))) ?_
    refine OpsW.nil ?_
    refine Ex.then_mk ?_
    refine AB.cnd rfl (fun h3 => ?_) (fun h3 => ?_)
    · replace hr3 := iteT hr3 h3
      refine AB.skip ?_
      refine Ex.then_mk ?_
      refine AB.seq_g fun K4 hK4 hG4 => ?_
      have J4 : ∀ (l0_2 : List Int), ref27_Back_J4 N d vi (ref27_Back_L3 N d m3) l0_2 = some res3 → K4 (mkF 74 [(0, (.row none 1 (d.map (eI .u8)))), (5, (.sl 0 0 l0_2.length 1 false)), (6, (eI .i64 vi))]) [some ⟨5, l0_2.map (eI .u8)⟩] := by
        intro l0_2 hr3
        unfold ref27_Back_J4 at hr3
        refine hK4 _ _ ?_
        refine AB.rw ?_
        refine wS (v := (eI .i64 vi)) (sv (d_move rfl)) ?_
        refine wS (v := (eI .i64 (IntKind.i64.wrap (vi + 1)))) (sv (d_bin rfl rfl (bin_add ..))) ?_
        refine wS (v := (eI .i64 (IntKind.i64.wrap (vi + 1)))) (sv (d_assign rfl)) ?_
        refine OpsW.nil ?_
        refine Ex.then_mk ?_
        exact ⟨IntKind.i64.wrap (vi + 1), l0_2, hr3, (Ghost.rn [0] rfl rfl (FLe.same rfl (FLe.same rfl (FLe.same rfl FLe.nil))) (HLe.live rfl (les_map (fun _ => rfl) _) (all_map (fun _ => rfl) _) HLe.nil) rfl)⟩
      refine AB.block ?_
      refine AB.seq ?_
      replace hr3 := bnd hr3; obtain ⟨x34, h_4, hr3⟩ := hr3
      replace hr3 := bnd hr3; obtain ⟨x40, h_5, hr3⟩ := hr3
      refine AB.rw ?_
      refine wS (v := (.row none 1 (d.map (eI .u8)))) (sv (d_move rfl)) ?_
      refine wS (v := (eI .i64 vi)) (sv (d_move rfl)) ?_
      refine wS (v := (eI .i64 (IntKind.i64.wrap (Int.tdiv vi 5)))) (sv (d_bin rfl rfl (bin_quo' _ _ _ _ rfl))) ?_
      refine wS (sv (d_ia rfl rfl (iaR ti22 ti5 h_4))) ?_
      refine wS (v := (eI .u8 x34)) (sv (d_load rfl (ldR h_4 (part1 ti5 rfl rfl)))) ?_
      refine wS (v := (eI .i64 vi)) (sv (d_move rfl)) ?_
      refine wS (v := (eI .i64 (Int.tmod vi 5))) (sv (d_bin rfl rfl (bin_rem' _ _ _ _ rfl))) ?_
      refine wS (v := (eI .i64 (IntKind.i64.wrap (4 - (Int.tmod vi 5))))) (sv (d_bin rfl rfl (bin_sub ..))) ?_
      refine wS (v := (eI .u64 (IntKind.u64.wrap (IntKind.i64.wrap (4 - (Int.tmod vi 5)))))) (sv (d_conv rfl (conv_int _ ⟨_, ti3⟩ ti34 rfl))) ?_
      refine wS (v := (eI .u8 x40)) (sv (d_bin rfl rfl (bin_shr' _ _ _ _ h_5))) ?_
      refine wS (v := (eI .u8 (bits .and .u8 x40 1))) (sv (d_bin rfl rfl (bin_and ..))) ?_
      refine wS (v := (eI .u8 (bits .and .u8 x40 1))) (sv (d_assign rfl)) ?_
      refine OpsW.nil ?_
      refine Ex.then_mk ?_
      refine AB.seq ?_
      refine AB.rw ?_
      refine wS (v := (eI .i64 vi)) (sv (d_move rfl)) ?_
      refine wS (v := (.sl 0 0 l0_1.length 1 false)) (sv (d_move rfl)) ?_
      refine wS (v := (eI .i64 (l0_1.length : Int))) (sv (d_len rfl (lenS ti22))) ?_
      refine wS (v := (eI .i64 (IntKind.i64.wrap (8 * (l0_1.length : Int))))) (sv (d_bin rfl rfl (bin_mul ..))) ?_
      refine wS (v := (eB (decide (vi < (IntKind.i64.wrap (8 * (l0_1.length : Int))))))) (sv (d_bin rfl rfl (bin_lss ..))) ?_
      refine OpsW.nil ?_
      refine Ex.then_mk ?_
      refine AB.cnd rfl (fun h6 => ?_) (fun h6 => ?_)
      · replace hr3 := iteT hr3 h6
        replace hr3 := bnd hr3; obtain ⟨x53, h_7, hr3⟩ := hr3
        replace hr3 := bnd hr3; obtain ⟨x60, h_8, hr3⟩ := hr3
        refine AB.rw ?_
        refine wS (v := (.sl 0 0 l0_1.length 1 false)) (sv (d_move rfl)) ?_
        refine wS (v := (eI .i64 vi)) (sv (d_move rfl)) ?_
        refine wS (v := (eI .i64 (IntKind.i64.wrap (Int.tdiv vi 8)))) (sv (d_bin rfl rfl (bin_quo' _ _ _ _ rfl))) ?_
        refine wS (v := (.sl 0 0 l0_1.length 1 false)) (sv (d_move rfl)) ?_
        refine wS (v := (eI .i64 vi)) (sv (d_move rfl)) ?_
        refine wS (v := (eI .i64 (IntKind.i64.wrap (Int.tdiv vi 8)))) (sv (d_bin rfl rfl (bin_quo' _ _ _ _ rfl))) ?_
        refine wS (v := (.ptr 0 (Int.toNat (IntKind.i64.wrap (Int.tdiv vi 8))))) (sv (d_ia rfl rfl (iaS rfl ti22 ti5 rfl h_7))) ?_
        refine wS (v := (eI .u8 x53)) (sv (d_load rfl (ldX (E := (eI .u8)) (y := x53) ti5 rfl rfl h_7))) ?_
        refine wS (v := (eI .u8 (bits .and .u8 x40 1))) (sv (d_move rfl)) ?_
        refine wS (v := (eI .i64 vi)) (sv (d_move rfl)) ?_
        refine wS (v := (eI .i64 (Int.tmod vi 8))) (sv (d_bin rfl rfl (bin_rem' _ _ _ _ rfl))) ?_
        refine wS (v := (eI .i64 (IntKind.i64.wrap (7 - (Int.tmod vi 8))))) (sv (d_bin rfl rfl (bin_sub ..))) ?_
        refine wS (v := (eI .u64 (IntKind.u64.wrap (IntKind.i64.wrap (7 - (Int.tmod vi 8)))))) (sv (d_conv rfl (conv_int _ ⟨_, ti3⟩ ti34 rfl))) ?_
        refine wS (v := (eI .u8 x60)) (sv (d_bin rfl rfl (bin_shl' _ _ _ _ h_8))) ?_
        refine wS (v := (eI .u8 (bits .or .u8 x53 x60))) (sv (d_bin rfl rfl (bin_or ..))) ?_
        refine wS (v := (.ptr 0 (Int.toNat (IntKind.i64.wrap (Int.tdiv vi 8))))) (sv (d_ia rfl rfl (iaS rfl ti22 ti5 rfl h_7))) ?_
        refine wN (h' := [some ⟨5, (l0_1.set (Int.toNat (IntKind.i64.wrap (Int.tdiv vi 8))) (bits .or .u8 x53 x60)).map (eI .u8)⟩]) (sv (d_store rfl rfl (stXe (E := (eI .u8)) (y := bits .or .u8 x53 x60) ti5 rfl rfl h_7 rfl rfl rfl))) ?_
        refine OpsW.nil ?_
        refine Ex.inBlock_mk ?_
        refine Ex.then_mk ?_
        exact hG4 _ _ _ _ (Ghost.rn [0] rfl rfl (FLe.same rfl (FLe.le rfl (by first | exact V.le_refl _ _ | (simp only [len_set, len_cpy]; exact V.le_refl _ _)) (FLe.same rfl FLe.nil))) (HLe.live rfl (les_map (fun _ => rfl) _) (all_map (fun _ => rfl) _) HLe.nil) rfl) (J4 (l0_1.set (Int.toNat (IntKind.i64.wrap (Int.tdiv vi 8))) (bits .or .u8 x53 x60)) hr3)
      · replace hr3 := iteF hr3 h6
        refine AB.seq ?_
        refine AB.rw ?_
        refine wS (v := (eI .u8 (bits .and .u8 x40 1))) (sv (d_move rfl)) ?_
        refine wS (v := (eB ((bits .and .u8 x40 1) != 0))) (sv (d_bin rfl rfl (bin_neq ..))) ?_
        refine OpsW.nil ?_
        refine Ex.then_mk ?_
        refine AB.cnd rfl (fun h9 => ?_) (fun h9 => ?_)
        · replace hr3 := iteT hr3 h9
          refine AB.seq ?_
          refine AB.rw ?_
          refine wS (v := (.row (some true) 1 [])) (sv (d_assign rfl)) ?_
          refine wS (v := (eI .i64 3)) (sv (d_assign rfl)) ?_
          refine OpsW.nil ?_
          refine Ex.then_mk ?_
          refine AB.ret ?_
          refine Ex.inBlock_ret_mk ?_
          refine Ex.then_ret_mk ?_
          refine Ex.then_ret_mk ?_
          refine Ex.inBlock_ret_mk ?_
          refine Ex.then_ret_mk ?_
          obtain rfl := Option.some.inj hr3
          obtain rfl := Option.some.inj hr
          exact done_ret (r1 := (.tup [(.row (some true) 1 []), (eI .i64 3)])) (res2 Try.results8 (rvT rfl) (rvT rfl)) (Ghost.trans (Ghost.virt (fr' := [(0, (.tup [(.sl 1 0 0 1 false), (eI .i64 3)]))]) (h1 := [some ⟨5, l0_1.map (eI .u8)⟩]) 5 (FLe.le rfl (V.le_tup (V.les_cons (V.le_virt rfl) (V.les_cons (V.le_refl _ _) V.les_nil))) FLe.nil) (HLv.live (V.les_refl _ _) (all_map (fun _ => rfl) _) HLv.nil)) (Ghost.rn [1] rfl rfl (FLe.le rfl (V.le_tup (V.les_cons (by first | exact V.le_refl _ _ | (simp only [len_set, len_cpy]; exact V.le_refl _ _)) (V.les_cons (V.le_refl _ _) V.les_nil))) FLe.nil) (HLe.live rfl V.les_nil rfl HLe.nil) rfl))
        · replace hr3 := iteF hr3 h9
          refine AB.skip ?_
          refine Ex.inBlock_mk ?_
          refine Ex.then_mk ?_
          exact hG4 _ _ _ _ (Ghost.rn [0] rfl rfl (FLe.same rfl (FLe.same rfl (FLe.same rfl FLe.nil))) (HLe.live rfl (les_map (fun _ => rfl) _) (all_map (fun _ => rfl) _) HLe.nil) rfl) (J4 l0_1 hr3)
    · replace hr3 := iteF hr3 h3
      refine AB.exit ?_
      refine Ex.then_exit_mk ?_
      refine Ex.then_exit_mk ?_
      refine Ex.inBlock_same_mk ?_
      obtain rfl := Option.some.inj hr3
      refine Ex.then_mk ?_
      exact hG2 _ _ _ _ (Ghost.rn [0] rfl rfl (FLe.same rfl (FLe.same rfl FLe.nil)) (HLe.live rfl (les_map (fun _ => rfl) _) (all_map (fun _ => rfl) _) HLe.nil) rfl) (J2 l0_1 hr)
  refine AB.seq ?_
  refine AB.rw ?_
  refine wS (v := (eI .i64 0)) (sv (d_assign rfl)) ?_
  refine OpsW.nil ?_
  refine Ex.then_mk ?_
  replace hr := bnd hr; obtain ⟨res5, hL5, hr⟩ := hr
  refine AB.block ?_
  refine AB.loopN (fun m s h => ∃ (vi_1 : Int), ref27_Back_L5 N d m vi_1 = some res5 ∧ Ghost 0 s h (mkF 74 [(0, (.row none 1 (d.map (eI .u8)))), (4, (eI .i64 vi_1))]) []) (n := N) ⟨0, hL5, (Ghost.rn [] rfl rfl (FLe.same rfl (FLe.same rfl FLe.nil)) HLe.nil rfl)⟩ (by rintro s h ⟨_, h0, _⟩; simp [ref27_Back_L5] at h0) ?_
  rintro m5 s h ⟨vi_1, hr5, hg⟩
  refine AB.ghost hg ?_
  clear hg hL5
  rw [ref27_Back_L5] at hr5
  refine AB.seq ?_
  refine AB.seq ?_
  refine AB.rw ?_
  refine wS (v := (eI .i64 vi_1)) (sv (d_move rfl)) ?_
  refine wS (v := (.row none 1 (d.map (eI .u8)))) (sv (d_move rfl)) ?_
  refine wS (v := (eI .i64 (d.length : Int))) (sv (d_len rfl (lenR ti22))) ?_
  refine wS (v := (eB (decide (vi_1 < (d.length : Int))))) (sv (d_bin rfl rfl (bin_lss ..))) ?_
  refine OpsW.nil ?_
  refine Ex.then_mk ?_
  refine AB.cnd rfl (fun h10 => ?_) (fun h10 => ?_)
  · replace hr5 := iteT hr5 h10
    refine AB.skip ?_
    refine Ex.then_mk ?_
    refine AB.seq ?_
    refine AB.block ?_
    refine AB.seq ?_
    replace hr5 := bnd hr5; obtain ⟨x16, h_11, hr5⟩ := hr5
    refine AB.rw ?_
    refine wS (v := (.row none 1 (d.map (eI .u8)))) (sv (d_move rfl)) ?_
    refine wS (v := (eI .i64 vi_1)) (sv (d_move rfl)) ?_
    refine wS (sv (d_ia rfl rfl (iaR ti22 ti5 h_11))) ?_
    refine wS (v := (eI .u8 x16)) (sv (d_load rfl (ldR h_11 (part1 ti5 rfl rfl)))) ?_
    refine wS (v := (eB (decide (31 < x16)))) (sv (d_bin rfl rfl (bin_gtr ..))) ?_
    refine OpsW.nil ?_
    refine Ex.then_mk ?_
    refine AB.cnd rfl (fun h12 => ?_) (fun h12 => ?_)
    · replace hr5 := iteT hr5 h12
      refine AB.seq ?_
      refine AB.rw ?_
      refine wS (v := (.row (some true) 1 [])) (sv (d_assign rfl)) ?_
      refine wS (v := (eI .i64 5)) (sv (d_assign rfl)) ?_
      refine OpsW.nil ?_
      refine Ex.then_mk ?_
      refine AB.ret ?_
      refine Ex.inBlock_ret_mk ?_
      refine Ex.then_ret_mk ?_
      refine Ex.then_ret_mk ?_
      refine Ex.inBlock_ret_mk ?_
      refine Ex.then_ret_mk ?_
      obtain rfl := Option.some.inj hr5
      obtain rfl := Option.some.inj hr
      exact done_ret (r1 := (.tup [(.row (some true) 1 []), (eI .i64 5)])) (res2 Try.results8 (rvT rfl) (rvT rfl)) (Ghost.trans (Ghost.virt (fr' := [(0, (.tup [(.sl 0 0 0 1 false), (eI .i64 5)]))]) (h1 := []) 5 (FLe.le rfl (V.le_tup (V.les_cons (V.le_virt rfl) (V.les_cons (V.le_refl _ _) V.les_nil))) FLe.nil) HLv.nil) (Ghost.rn [0] rfl rfl (FLe.le rfl (V.le_tup (V.les_cons (by first | exact V.le_refl _ _ | (simp only [len_set, len_cpy]; exact V.le_refl _ _)) (V.les_cons (V.le_refl _ _) V.les_nil))) FLe.nil) (HLe.live rfl V.les_nil rfl HLe.nil) rfl))
    · replace hr5 := iteF hr5 h12
      refine AB.skip ?_
      refine Ex.inBlock_mk ?_
      refine Ex.then_mk ?_
      refine AB.rw ?_
      refine wS (v := (eI .i64 vi_1)) (sv (d_move rfl)) ?_
      refine wS (v := (eI .i64 (IntKind.i64.wrap (vi_1 + 1)))) (sv (d_bin rfl rfl (bin_add ..))) ?_
      refine wS (v := (eI .i64 (IntKind.i64.wrap (vi_1 + 1)))) (sv (d_assign rfl)) ?_
      refine OpsW.nil ?_
      refine Ex.then_mk ?_
      exact ⟨IntKind.i64.wrap (vi_1 + 1), hr5, (Ghost.rn [] rfl rfl (FLe.same rfl (FLe.same rfl FLe.nil)) HLe.nil rfl)⟩
  · replace hr5 := iteF hr5 h10
    refine AB.exit ?_
    refine Ex.then_exit_mk ?_
    refine Ex.then_exit_mk ?_
    refine Ex.inBlock_same_mk ?_
    obtain rfl := Option.some.inj hr5
    refine Ex.then_mk ?_
    exact hG1 _ _ _ _ (Ghost.rn [] rfl rfl (FLe.same rfl FLe.nil) HLe.nil rfl) (J1 hr)
set_option maxRecDepth 20000 in
set_option maxHeartbeats 1000000 in
theorem ref01_Same_ok (N : Nat) (va : List Int) (b : List Int) (r : Bool) (hr : ref01_Same N va b = some r) :
    Vm.Fn Try.prog 9 [] [(.row none 1 (va.map (eI .u8))), (.row none 1 (b.map (eI .u8)))] (eB r) [] := by
  refine fn_ab Try.func9 rfl (by kernel_rfl) Try.ntmps9 (Nat.le_of_ble_eq_true rfl) rfl (fr := [(0, (.row none 1 (va.map (eI .u8)))), (1, (.row none 1 (b.map (eI .u8))))]) rfl ?_
  unfold ref01_Same at hr
  refine AB.seq ?_
  refine AB.rw ?_
  refine wS (v := (eB false)) (sv (d_assign rfl)) ?_
  refine OpsW.nil ?_
  refine Ex.then_mk ?_
  refine AB.seq ?_
  refine AB.rw ?_
  refine wS (v := (.row none 1 (va.map (eI .u8)))) (sv (d_move rfl)) ?_
  refine wS (v := (eS (strOf va))) (sv (d_conv rfl (convB ti22 ti9 ti5 (srcR (fun _ => rfl))))) ?_
  refine wS (v := (.row none 1 (b.map (eI .u8)))) (sv (d_move rfl)) ?_
  refine wS (v := (eS (strOf b))) (sv (d_conv rfl (convB ti22 ti9 ti5 (srcR (fun _ => rfl))))) ?_
  refine wS (v := (eB ((strOf va).toList == (strOf b).toList))) (sv (d_bin rfl rfl (bin_eqlS ..))) ?_
  refine wS (v := (eB ((strOf va).toList == (strOf b).toList))) (sv (d_assign rfl)) ?_
  refine OpsW.nil ?_
  refine Ex.then_mk ?_
  refine AB.ret ?_
  obtain rfl := Option.some.inj hr
  exact done_ret (r1 := (eB ((strOf va).toList == (strOf b).toList))) (res1 Try.results9 (rvT rfl)) (Ghost.rn [] rfl rfl (FLe.same rfl FLe.nil) HLe.nil rfl)
set_option maxRecDepth 20000 in
set_option maxHeartbeats 1000000 in
theorem law27_AddressDigits_ok (N : Nat) (b : List Int) (d : List Int) (r : Bool) (hr : law27_AddressDigits N b d = some r) :
    Vm.Fn Try.prog 3 [] [(.row none 1 (b.map (eI .u8))), (.row none 1 (d.map (eI .u8)))] (eB r) [] := by
  refine fn_ab Try.func3 rfl (by kernel_rfl) Try.ntmps3 (Nat.le_of_ble_eq_true rfl) rfl (fr := [(0, (.row none 1 (b.map (eI .u8)))), (1, (.row none 1 (d.map (eI .u8))))]) rfl ?_
  unfold law27_AddressDigits at hr
  refine AB.seq ?_
  refine AB.rw ?_
  refine wS (v := (eB false)) (sv (d_assign rfl)) ?_
  refine OpsW.nil ?_
  refine Ex.then_mk ?_
  refine AB.seq ?_
  refine AB.seq ?_
  replace hr := bnd hr; obtain ⟨x14, h_1, hr⟩ := hr
  refine AB.rw ?_
  refine wC (v := (eB x14)) (h' := []) rfl (Vm.Fn.pure (law27_sane_ok N x14 h_1) rfl rfl) ?_
  refine wS (v := (eB (!x14))) (sv (d_un rfl (un_not _ _))) ?_
  refine OpsW.nil ?_
  refine Ex.then_mk ?_
  refine AB.cnd rfl (fun h2 => ?_) (fun h2 => ?_)
  · replace hr := iteT hr h2
    refine AB.seq ?_
    refine AB.rw ?_
    refine wS (v := (eB false)) (sv (d_assign rfl)) ?_
    refine OpsW.nil ?_
    refine Ex.then_mk ?_
    refine AB.ret ?_
    refine Ex.then_ret_mk ?_
    obtain rfl := Option.some.inj hr
    exact done_ret (r1 := (eB false)) (res1 Try.results3 (rvT rfl)) (Ghost.rn [] rfl rfl (FLe.same rfl FLe.nil) HLe.nil rfl)
  · replace hr := iteF hr h2
    refine AB.skip ?_
    refine Ex.then_mk ?_
    refine AB.seq ?_
    refine AB.seq_g fun K1 hK1 hG1 => ?_
    have J1 : ∀ (x23 : Bool), law27_AddressDigits_J1 N b d x23 = some r → K1 (mkF 71 [(0, (.row none 1 (b.map (eI .u8)))), (1, (.row none 1 (d.map (eI .u8)))), (23, (eB x23))]) [] := by
      intro x23 hr
      unfold law27_AddressDigits_J1 at hr
      refine hK1 _ _ ?_
      refine AB.cnd rfl (fun h3 => ?_) (fun h3 => ?_)
      · replace hr := iteT hr h3
        refine AB.seq ?_
        refine AB.rw ?_
        refine wS (v := (eB true)) (sv (d_assign rfl)) ?_
        refine OpsW.nil ?_
        refine Ex.then_mk ?_
        refine AB.ret ?_
        refine Ex.then_ret_mk ?_
        obtain rfl := Option.some.inj hr
        exact done_ret (r1 := (eB true)) (res1 Try.results3 (rvT rfl)) (Ghost.rn [] rfl rfl (FLe.same rfl FLe.nil) HLe.nil rfl)
      · replace hr := iteF hr h3
        refine AB.skip ?_
        refine Ex.then_mk ?_
        refine AB.seq ?_
        refine AB.rw ?_
        refine wS (v := (.row (some true) 1 [])) (sv (d_assign rfl)) ?_
        refine OpsW.nil ?_
        refine Ex.then_mk ?_
        refine AB.seq_g fun K2 hK2 hG2 => ?_
        have J2 : ∀ (l0 : List Int), law27_AddressDigits_J2 N b d l0 = some r → K2 (mkF 71 [(0, (.row none 1 (b.map (eI .u8)))), (1, (.row none 1 (d.map (eI .u8)))), (5, (.sl 0 0 l0.length 1 false))]) [some ⟨5, l0.map (eI .u8)⟩] := by
          intro l0 hr
          unfold law27_AddressDigits_J2 at hr
          refine hK2 _ _ ?_
          refine AB.seq_g fun K3 hK3 hG3 => ?_
          have J3 : law27_AddressDigits_J3 N b = some r → K3 (mkF 71 [(0, (.row none 1 (b.map (eI .u8))))]) [] := by
            intro hr
            unfold law27_AddressDigits_J3 at hr
            refine hK3 _ _ ?_
            refine AB.seq ?_
            replace hr := bnd hr; obtain ⟨x67, h_4, hr⟩ := hr
            replace hr := bnd hr; obtain ⟨x69, h_5, hr⟩ := hr
            replace hr := bnd hr; obtain ⟨x70, h_6, hr⟩ := hr
            refine AB.rw ?_
            refine wS (v := (.row none 1 (b.map (eI .u8)))) (sv (d_move rfl)) ?_
            refine wC (v := (.sl 0 0 x67.length 1 false)) (h' := [some ⟨5, x67.map (eI .u8)⟩]) rfl (Vm.Fn.lendB (address_Convert_ok N b x67 h_4) [] (by decide) rfl Lend.nil rfl rfl (by simp only [lent, lendSet, lendSet_nil, rnH, Blk.rn, V.rns, V.rn, sg, List.map_cons, List.map_nil, Option.map_some, Option.map_none, List.drop_succ_cons, List.drop_zero, List.drop_nil, List.set_cons_zero, List.set_cons_succ, List.cons_append, List.nil_append, List.append_nil, rns_eI, rns_eB, rns_eS, rns_eL, List.getElem?_cons_zero, List.getElem?_cons_succ, List.getElem?_nil, List.length_cons, List.length_nil, Nat.reduceAdd, Nat.reduceSub, Nat.add_zero, Nat.zero_add, Nat.sub_self, Nat.sub_zero])) ?_
            refine wS (v := (.row none 1 (b.map (eI .u8)))) (sv (d_move rfl)) ?_
            refine wC (v := (.sl 1 0 x69.length 1 false)) (h' := [some ⟨5, x67.map (eI .u8)⟩, some ⟨5, x69.map (eI .u8)⟩]) rfl (Vm.Fn.lendB (ref27_Convert_ok N b x69 h_5) [] (by decide) rfl Lend.nil rfl rfl (by simp only [lent, lendSet, lendSet_nil, rnH, Blk.rn, V.rns, V.rn, sg, List.map_cons, List.map_nil, Option.map_some, Option.map_none, List.drop_succ_cons, List.drop_zero, List.drop_nil, List.set_cons_zero, List.set_cons_succ, List.cons_append, List.nil_append, List.append_nil, rns_eI, rns_eB, rns_eS, rns_eL, List.getElem?_cons_zero, List.getElem?_cons_succ, List.getElem?_nil, List.length_cons, List.length_nil, Nat.reduceAdd, Nat.reduceSub, Nat.add_zero, Nat.zero_add, Nat.sub_self, Nat.sub_zero])) ?_
            refine wC (v := (eB x70)) (h' := [some ⟨5, x67.map (eI .u8)⟩, some ⟨5, x69.map (eI .u8)⟩]) rfl (Vm.Fn.lendR (ref01_Same_ok N x67 x69 x70 h_6) [] [0, 1] (by decide) rfl (by decide) Lend.nil (Brw.row (exp_slT rfl rfl (fun _ => rfl)) (Brw.row (exp_slT rfl rfl (fun _ => rfl)) Brw.nil)) rfl rfB.nil rfl (by simp only [lent, lendSet, lendSet_nil, rnH, Blk.rn, V.rns, V.rn, sg, List.map_cons, List.map_nil, Option.map_some, Option.map_none, List.drop_succ_cons, List.drop_zero, List.drop_nil, List.set_cons_zero, List.set_cons_succ, List.cons_append, List.nil_append, List.append_nil, rns_eI, rns_eB, rns_eS, rns_eL, List.getElem?_cons_zero, List.getElem?_cons_succ, List.getElem?_nil, List.length_cons, List.length_nil, Nat.reduceAdd, Nat.reduceSub, Nat.add_zero, Nat.zero_add, Nat.sub_self, Nat.sub_zero])) ?_
            refine wS (v := (eB x70)) (sv (d_assign rfl)) ?_
            refine OpsW.nil ?_
            refine Ex.then_mk ?_
            refine AB.ret ?_
            obtain rfl := Option.some.inj hr
            exact done_ret (r1 := (eB x70)) (res1 Try.results3 (rvT rfl)) (Ghost.rn [] rfl rfl (FLe.same rfl FLe.nil) HLe.nil rfl)
          refine AB.seq ?_
          replace hr := bnd hr; obtain ⟨x39, h_7, hr⟩ := hr
          refine AB.rw ?_
          refine wS (v := (.row none 1 (d.map (eI .u8)))) (sv (d_move rfl)) ?_
          refine wS (v := (.sl 0 0 l0.length 1 false)) (sv (d_move rfl)) ?_
          refine wS (v := (.row none 1 (b.map (eI .u8)))) (sv (d_move rfl)) ?_
          refine wC (v := (.sl 1 0 x39.length 1 false)) (h' := [some ⟨5, l0.map (eI .u8)⟩, some ⟨5, x39.map (eI .u8)⟩]) rfl (Vm.Fn.lendB (ref27_Convert_ok N b x39 h_7) [] (by decide) rfl Lend.nil rfl rfl (by simp only [lent, lendSet, lendSet_nil, rnH, Blk.rn, V.rns, V.rn, sg, List.map_cons, List.map_nil, Option.map_some, Option.map_none, List.drop_succ_cons, List.drop_zero, List.drop_nil, List.set_cons_zero, List.set_cons_succ, List.cons_append, List.nil_append, List.append_nil, rns_eI, rns_eB, rns_eS, rns_eL, List.getElem?_cons_zero, List.getElem?_cons_succ, List.getElem?_nil, List.length_cons, List.length_nil, Nat.reduceAdd, Nat.reduceSub, Nat.add_zero, Nat.zero_add, Nat.sub_self, Nat.sub_zero])) ?_
          refine OpsW.ghost (Ghost.conv (fr' := [(0, (.row none 1 (b.map (eI .u8)))), (1, (.row none 1 (d.map (eI .u8)))), (5, (.row none 1 (l0.map (eI .u8)))), (36, (.row none 1 (d.map (eI .u8)))), (37, (.row none 1 (l0.map (eI .u8)))), (38, (.row none 1 (b.map (eI .u8)))), (39, (.sl 1 0 x39.length 1 false))]) (h' := [none, some ⟨5, x39.map (eI .u8)⟩]) (FCv.cons rfl (Conv.same (subB_sub rfl)) (FCv.cons rfl (Conv.same (subB_sub rfl)) (FCv.cons rfl (Conv.row (subB_sub rfl) rfl rfl (all_mapE (fun _ => rfl)) (by first | rfl | simp only [List.length_map, len_set, len_cpy])) (FCv.cons rfl (Conv.same (subB_sub rfl)) (FCv.cons rfl (Conv.row (subB_sub rfl) rfl rfl (all_mapE (fun _ => rfl)) (by first | rfl | simp only [List.length_map, len_set, len_cpy])) (FCv.cons rfl (Conv.same (subB_sub rfl)) (FCv.cons rfl (Conv.same (subB_sub rfl)) FCv.nil))))))) (HCv.dead (HCv.live (Convs.same (subB_sub rfl)) (all_map (fun _ => rfl) _) HCv.nil))) ?_
          refine OpsW.ghost (Ghost.conv (fr' := [(0, (.row none 1 (b.map (eI .u8)))), (1, (.row none 1 (d.map (eI .u8)))), (5, (.row none 1 (l0.map (eI .u8)))), (36, (.row none 1 (d.map (eI .u8)))), (37, (.row none 1 (l0.map (eI .u8)))), (38, (.row none 1 (b.map (eI .u8)))), (39, (.row none 1 (x39.map (eI .u8))))]) (h' := [none, none]) (FCv.cons rfl (Conv.same (subB_sub rfl)) (FCv.cons rfl (Conv.same (subB_sub rfl)) (FCv.cons rfl (Conv.same (subB_sub rfl)) (FCv.cons rfl (Conv.same (subB_sub rfl)) (FCv.cons rfl (Conv.same (subB_sub rfl)) (FCv.cons rfl (Conv.same (subB_sub rfl)) (FCv.cons rfl (Conv.row (subB_sub rfl) rfl rfl (all_mapE (fun _ => rfl)) (by first | rfl | simp only [List.length_map, len_set, len_cpy])) FCv.nil))))))) (HCv.dead (HCv.dead HCv.nil))) ?_
          refine wS (v := (.sl 2 0 3 1 false)) (h' := [none, none, some ⟨22, [d, l0, x39].map (eL 1 (eI .u8))⟩]) (sv (d_buildS rfl (bldL1 (xs := [d, l0, x39].map (eL 1 (eI .u8))) ti25 ti22 (Nat.le_of_ble_eq_true rfl) (Nat.le_of_ble_eq_true rfl) rfl rfl rfl rfl rfl rfl rfl))) ?_
          refine wS (v := (eI .i64 (3 : Int))) (sv (d_len rfl (lenS ti25))) ?_
          refine wS (v := (eI .i64 0)) (sv (d_move rfl)) ?_
          refine OpsW.nil ?_
          refine Ex.then_mk ?_
          replace hr := bnd hr; obtain ⟨res4, hL4, hr⟩ := hr
          refine AB.block ?_
          refine AB.loopN (fun m s h => ∃ (x42 : Int), law27_AddressDigits_L4 N b d l0 x39 m x42 = some res4 ∧ Ghost 0 s h (mkF 71 [(0, (.row none 1 (b.map (eI .u8)))), (40, (.sl 0 0 ([d, l0, x39].length) 1 false)), (41, (eI .i64 (3 : Int))), (42, (eI .i64 x42))]) [some ⟨22, [d, l0, x39].map (eL 1 (eI .u8))⟩]) (n := N) ⟨0, hL4, (Ghost.rn [2] rfl rfl (FLe.same rfl (FLe.le rfl (by first | exact V.le_refl _ _ | (simp only [len_set, len_cpy]; exact V.le_refl _ _)) (FLe.same rfl (FLe.same rfl FLe.nil)))) (HLe.live rfl (les_map (fun _ => rfl) _) (all_map (fun _ => rfl) _) HLe.nil) rfl)⟩ (by rintro s h ⟨_, h0, _⟩; simp [law27_AddressDigits_L4] at h0) ?_
          rintro m4 s h ⟨x42, hr4, hg⟩
          refine AB.ghost hg ?_
          clear hg hL4
          rw [law27_AddressDigits_L4] at hr4
          refine AB.seq ?_
          refine AB.rw ?_
          refine wS (v := (eB (decide (x42 < (3 : Int))))) (sv (d_bin rfl rfl (bin_lss ..))) ?_
          refine OpsW.nil ?_
          refine Ex.then_mk ?_
          refine AB.seq ?_
          refine AB.cnd rfl (fun h8 => ?_) (fun h8 => ?_)
          · replace hr4 := iteT hr4 h8
            refine AB.skip ?_
            refine Ex.then_mk ?_
            refine AB.seq ?_
            refine AB.block ?_
            refine AB.seq ?_
            replace hr4 := bnd hr4; obtain ⟨x44, h_9, hr4⟩ := hr4
            refine AB.rw ?_
            refine wS (v := (.ptr 0 (Int.toNat x42))) (sv (d_ia rfl rfl (iaS rfl ti25 ti22 rfl h_9))) ?_
            refine wS (v := (.row none 1 (x44.map (eI .u8)))) (sv (d_load rfl (ldX (E := (eL 1 (eI .u8))) (y := x44) ti22 rfl rfl h_9))) ?_
            refine wS (v := (.row none 1 (x44.map (eI .u8)))) (sv (d_assign rfl)) ?_
            refine OpsW.nil ?_
            refine Ex.then_mk ?_
            refine AB.seq ?_
            replace hr4 := bnd hr4; obtain ⟨x48, h_10, hr4⟩ := hr4
            refine AB.rw ?_
            refine wS (v := (.row none 1 (x44.map (eI .u8)))) (sv (d_move rfl)) ?_
            refine wC (v := (.tup [(.sl 1 0 x48.1.length 1 false), (eI .i64 x48.2)])) (h' := [some ⟨22, [d, l0, x39].map (eL 1 (eI .u8))⟩, some ⟨5, x48.1.map (eI .u8)⟩]) rfl (Vm.Fn.lendB (address_Back_ok N x44 x48 h_10) [] (by decide) rfl Lend.nil rfl rfl (by simp only [lent, lendSet, lendSet_nil, rnH, Blk.rn, V.rns, V.rn, sg, List.map_cons, List.map_nil, Option.map_some, Option.map_none, List.drop_succ_cons, List.drop_zero, List.drop_nil, List.set_cons_zero, List.set_cons_succ, List.cons_append, List.nil_append, List.append_nil, rns_eI, rns_eB, rns_eS, rns_eL, List.getElem?_cons_zero, List.getElem?_cons_succ, List.getElem?_nil, List.length_cons, List.length_nil, Nat.reduceAdd, Nat.reduceSub, Nat.add_zero, Nat.zero_add, Nat.sub_self, Nat.sub_zero])) ?_
            refine wS (v := (.tup [(.sl 1 0 x48.1.length 1 false), (eI .i64 x48.2)])) (sv (d_move rfl)) ?_
            refine wS (v := (.sl 1 0 x48.1.length 1 false)) (sv (d_ext rfl rfl)) ?_
            refine wS (v := (eI .i64 x48.2)) (sv (d_ext rfl rfl)) ?_
            refine wS (v := (.sl 1 0 x48.1.length 1 false)) (sv (d_assign rfl)) ?_
            refine wS (v := (eI .i64 x48.2)) (sv (d_assign rfl)) ?_
            refine OpsW.nil ?_
            refine Ex.then_mk ?_
            refine AB.seq ?_
            replace hr4 := bnd hr4; obtain ⟨x53, h_11, hr4⟩ := hr4
            refine AB.rw ?_
            refine wS (v := (.row none 1 (x44.map (eI .u8)))) (sv (d_move rfl)) ?_
            refine wC (v := (.tup [(.sl 2 0 x53.1.length 1 false), (eI .i64 x53.2)])) (h' := [some ⟨22, [d, l0, x39].map (eL 1 (eI .u8))⟩, some ⟨5, x48.1.map (eI .u8)⟩, some ⟨5, x53.1.map (eI .u8)⟩]) rfl (Vm.Fn.lendB (ref27_Back_ok N x44 x53 h_11) [] (by decide) rfl Lend.nil rfl rfl (by simp only [lent, lendSet, lendSet_nil, rnH, Blk.rn, V.rns, V.rn, sg, List.map_cons, List.map_nil, Option.map_some, Option.map_none, List.drop_succ_cons, List.drop_zero, List.drop_nil, List.set_cons_zero, List.set_cons_succ, List.cons_append, List.nil_append, List.append_nil, rns_eI, rns_eB, rns_eS, rns_eL, List.getElem?_cons_zero, List.getElem?_cons_succ, List.getElem?_nil, List.length_cons, List.length_nil, Nat.reduceAdd, Nat.reduceSub, Nat.add_zero, Nat.zero_add, Nat.sub_self, Nat.sub_zero])) ?_
            refine wS (v := (.tup [(.sl 2 0 x53.1.length 1 false), (eI .i64 x53.2)])) (sv (d_move rfl)) ?_
            refine wS (v := (.sl 2 0 x53.1.length 1 false)) (sv (d_ext rfl rfl)) ?_
            refine wS (v := (eI .i64 x53.2)) (sv (d_ext rfl rfl)) ?_
            refine wS (v := (.sl 2 0 x53.1.length 1 false)) (sv (d_assign rfl)) ?_
            refine wS (v := (eI .i64 x53.2)) (sv (d_assign rfl)) ?_
            refine OpsW.nil ?_
            refine Ex.then_mk ?_
            refine AB.seq_g fun K5 hK5 hG5 => ?_
            have J5 : ∀ (x64 : Bool), law27_AddressDigits_J5 N b d l0 x39 x42 (law27_AddressDigits_L4 N b d l0 x39 m4) x64 = some res4 → K5 (mkF 71 [(0, (.row none 1 (b.map (eI .u8)))), (40, (.sl 0 0 ([d, l0, x39].length) 1 false)), (41, (eI .i64 (3 : Int))), (42, (eI .i64 x42)), (64, (eB x64))]) [some ⟨22, [d, l0, x39].map (eL 1 (eI .u8))⟩] := by
              intro x64 hr4
              unfold law27_AddressDigits_J5 at hr4
              refine hK5 _ _ ?_
              refine AB.cnd rfl (fun h12 => ?_) (fun h12 => ?_)
              · replace hr4 := iteT hr4 h12
                refine AB.seq ?_
                refine AB.rw ?_
                refine wS (v := (eB false)) (sv (d_assign rfl)) ?_
                refine OpsW.nil ?_
                refine Ex.then_mk ?_
                refine AB.ret ?_
                refine Ex.inBlock_ret_mk ?_
                refine Ex.then_ret_mk ?_
                refine Ex.then_ret_mk ?_
                refine Ex.inBlock_ret_mk ?_
                refine Ex.then_ret_mk ?_
                obtain rfl := Option.some.inj hr4
                obtain rfl := Option.some.inj hr
                exact done_ret (r1 := (eB false)) (res1 Try.results3 (rvT rfl)) (Ghost.rn [] rfl rfl (FLe.same rfl FLe.nil) HLe.nil rfl)
              · replace hr4 := iteF hr4 h12
                refine AB.skip ?_
                refine Ex.inBlock_mk ?_
                refine Ex.then_mk ?_
                refine AB.rw ?_
                refine wS (v := (eI .i64 (IntKind.i64.wrap (x42 + 1)))) (sv (d_bin rfl rfl (bin_add ..))) ?_
                refine wS (v := (eI .i64 (IntKind.i64.wrap (x42 + 1)))) (sv (d_move rfl)) ?_
                refine OpsW.nil ?_
                refine Ex.then_mk ?_
                exact ⟨IntKind.i64.wrap (x42 + 1), hr4, (Ghost.rn [0] rfl rfl (FLe.same rfl (FLe.same rfl (FLe.same rfl (FLe.same rfl FLe.nil)))) (HLe.live rfl (les_map (fun _ => rfl) _) (all_map (fun _ => rfl) _) HLe.nil) rfl)⟩
            rcases Bool.eq_false_or_eq_true (x48.2 != x53.2) with h13 | h13
            · replace hr4 := iteT hr4 h13
              refine AB.rw ?_
              refine wS (v := (eI .i64 x48.2)) (sv (d_move rfl)) ?_
              refine wS (v := (eI .i64 x53.2)) (sv (d_move rfl)) ?_
              refine wS (v := (eB (x48.2 != x53.2))) (sv (d_bin rfl rfl (bin_neq ..))) ?_
              refine wS (v := (eB (x48.2 != x53.2))) (sv (d_move rfl)) ?_
              refine wS (svX rfl rfl h13) ?_
              refine wS (svX rfl rfl h13) ?_
              refine wS (svX rfl rfl h13) ?_
              refine wS (svX rfl rfl h13) ?_
              refine wS (v := (eB true)) (sv (d_pickT rfl h13 rfl)) ?_
              refine OpsW.nil ?_
              refine Ex.then_mk ?_
              exact hG5 _ _ _ _ (Ghost.rn [0] rfl rfl (FLe.same rfl (FLe.same rfl (FLe.same rfl (FLe.same rfl (FLe.same rfl FLe.nil))))) (HLe.live rfl (les_map (fun _ => rfl) _) (all_map (fun _ => rfl) _) HLe.nil) rfl) (J5 true hr4)
            · replace hr4 := iteF hr4 h13
              replace hr4 := bnd hr4; obtain ⟨x62, h_14, hr4⟩ := hr4
              refine AB.rw ?_
              refine wS (v := (eI .i64 x48.2)) (sv (d_move rfl)) ?_
              refine wS (v := (eI .i64 x53.2)) (sv (d_move rfl)) ?_
              refine wS (v := (eB (x48.2 != x53.2))) (sv (d_bin rfl rfl (bin_neq ..))) ?_
              refine wS (v := (eB (x48.2 != x53.2))) (sv (d_move rfl)) ?_
              refine wS (v := (.sl 1 0 x48.1.length 1 false)) (svG rfl rfl h13 (d_move rfl)) ?_
              refine wS (v := (.sl 2 0 x53.1.length 1 false)) (svG rfl rfl h13 (d_move rfl)) ?_
              refine wCG (v := (eB x62)) (h' := [some ⟨22, [d, l0, x39].map (eL 1 (eI .u8))⟩, some ⟨5, x48.1.map (eI .u8)⟩, some ⟨5, x53.1.map (eI .u8)⟩]) rfl rfl h13 rfl (Vm.Fn.lendR (ref01_Same_ok N x48.1 x53.1 x62 h_14) [] [1, 2] (by decide) rfl (by decide) Lend.nil (Brw.row (exp_slT rfl rfl (fun _ => rfl)) (Brw.row (exp_slT rfl rfl (fun _ => rfl)) Brw.nil)) rfl rfB.nil rfl (by simp only [lent, lendSet, lendSet_nil, rnH, Blk.rn, V.rns, V.rn, sg, List.map_cons, List.map_nil, Option.map_some, Option.map_none, List.drop_succ_cons, List.drop_zero, List.drop_nil, List.set_cons_zero, List.set_cons_succ, List.cons_append, List.nil_append, List.append_nil, rns_eI, rns_eB, rns_eS, rns_eL, List.getElem?_cons_zero, List.getElem?_cons_succ, List.getElem?_nil, List.length_cons, List.length_nil, Nat.reduceAdd, Nat.reduceSub, Nat.add_zero, Nat.zero_add, Nat.sub_self, Nat.sub_zero])) ?_
              refine wS (v := (eB (!x62))) (svG rfl rfl h13 (d_un rfl (un_not _ _))) ?_
              refine wS (v := (eB (!x62))) (sv (d_pickF rfl h13 rfl)) ?_
              refine OpsW.nil ?_
              refine Ex.then_mk ?_
              exact hG5 _ _ _ _ (Ghost.rn [0] rfl rfl (FLe.same rfl (FLe.same rfl (FLe.same rfl (FLe.same rfl (FLe.same rfl FLe.nil))))) (HLe.live rfl (les_map (fun _ => rfl) _) (all_map (fun _ => rfl) _) HLe.nil) rfl) (J5 (!x62) hr4)
          · replace hr4 := iteF hr4 h8
            refine AB.exit ?_
            refine Ex.then_exit_mk ?_
            refine Ex.then_exit_mk ?_
            refine Ex.inBlock_same_mk ?_
            obtain rfl := Option.some.inj hr4
            refine Ex.then_mk ?_
            exact hG3 _ _ _ _ (Ghost.rn [] rfl rfl (FLe.same rfl FLe.nil) HLe.nil rfl) (J3 hr)
        refine AB.seq ?_
        refine AB.rw ?_
        refine wS (v := (.row none 1 (d.map (eI .u8)))) (sv (d_move rfl)) ?_
        refine wS (v := (eI .i64 (d.length : Int))) (sv (d_len rfl (lenR ti22))) ?_
        refine wS (v := (eI .i64 0)) (sv (d_move rfl)) ?_
        refine OpsW.nil ?_
        refine Ex.then_mk ?_
        replace hr := bnd hr; obtain ⟨res6, hL6, hr⟩ := hr
        refine AB.block ?_
        refine AB.loopN (fun m s h => ∃ (x26 : Int) (l0_1 : List Int), law27_AddressDigits_L6 N b d m x26 l0_1 = some res6 ∧ Ghost 0 s h (mkF 71 [(0, (.row none 1 (b.map (eI .u8)))), (1, (.row none 1 (d.map (eI .u8)))), (5, (.sl 0 0 l0_1.length 1 false)), (24, (.row none 1 (d.map (eI .u8)))), (25, (eI .i64 (d.length : Int))), (26, (eI .i64 x26))]) [some ⟨5, l0_1.map (eI .u8)⟩]) (n := N) ⟨0, [], hL6, (Ghost.trans (Ghost.virt (fr' := [(0, (.row none 1 (b.map (eI .u8)))), (1, (.row none 1 (d.map (eI .u8)))), (5, (.sl 0 0 0 1 false)), (24, (.row none 1 (d.map (eI .u8)))), (25, (eI .i64 (d.length : Int))), (26, (eI .i64 0))]) (h1 := []) 5 (FLe.same rfl (FLe.same rfl (FLe.le rfl (V.le_virt rfl) (FLe.same rfl (FLe.same rfl (FLe.same rfl FLe.nil)))))) HLv.nil) (Ghost.rn [0] rfl rfl (FLe.same rfl (FLe.same rfl (FLe.le rfl (by first | exact V.le_refl _ _ | (simp only [len_set, len_cpy]; exact V.le_refl _ _)) (FLe.same rfl (FLe.same rfl (FLe.same rfl FLe.nil)))))) (HLe.live rfl V.les_nil rfl HLe.nil) rfl))⟩ (by rintro s h ⟨_, _, h0, _⟩; simp [law27_AddressDigits_L6] at h0) ?_
        rintro m6 s h ⟨x26, l0_1, hr6, hg⟩
        refine AB.ghost hg ?_
        clear hg hL6
        rw [law27_AddressDigits_L6] at hr6
        refine AB.seq ?_
        refine AB.rw ?_
        refine wS (v := (eB (decide (x26 < (d.length : Int))))) (sv (d_bin rfl rfl (bin_lss ..))) ?_
        refine OpsW.nil ?_
        refine Ex.then_mk ?_
        refine AB.seq ?_
        refine AB.cnd rfl (fun h15 => ?_) (fun h15 => ?_)
        · replace hr6 := iteT hr6 h15
          refine AB.skip ?_
          refine Ex.then_mk ?_
          refine AB.seq ?_
          refine AB.block ?_
          refine AB.seq ?_
          replace hr6 := bnd hr6; obtain ⟨x28, h_16, hr6⟩ := hr6
          refine AB.rw ?_
          refine wS (sv (d_ia rfl rfl (iaR ti22 ti5 h_16))) ?_
          refine wS (v := (eI .u8 x28)) (sv (d_load rfl (ldR h_16 (part1 ti5 rfl rfl)))) ?_
          refine wS (v := (eI .u8 x28)) (sv (d_assign rfl)) ?_
          refine OpsW.nil ?_
          refine Ex.then_mk ?_
          replace hr6 := bnd hr6; obtain ⟨x34, h_17, hr6⟩ := hr6
          refine AB.rw ?_
          refine wS (v := (.sl 0 0 l0_1.length 1 false)) (sv (d_move rfl)) ?_
          refine wS (v := (eI .u8 x28)) (sv (d_move rfl)) ?_
          refine wS (v := (eI .u8 (Int.tmod x28 32))) (sv (d_bin rfl rfl (bin_rem' _ _ _ _ rfl))) ?_
          refine wS (v := (.sl 1 0 1 1 false)) (h' := [some ⟨5, l0_1.map (eI .u8)⟩, some ⟨5, [Int.tmod x28 32].map (eI .u8)⟩]) (sv (d_buildS rfl (bldL1 (xs := [Int.tmod x28 32].map (eI .u8)) ti22 ti5 (Nat.le_of_ble_eq_true rfl) (Nat.le_of_ble_eq_true rfl) rfl rfl rfl rfl rfl rfl rfl))) ?_
          refine wS (v := (.sl 2 0 x34.length 1 false)) (h' := [none, some ⟨5, [Int.tmod x28 32].map (eI .u8)⟩, some ⟨5, x34.map (eI .u8)⟩]) (sv (d_append rfl rfl (appS (E := (eI .u8)) rfl ti22 ti5 ⟨rfl, rfl, Nat.le_of_ble_eq_true rfl⟩ rfl (srcS rfl rfl) h_17 rfl rfl))) ?_
          refine wS (v := (.sl 2 0 x34.length 1 false)) (sv (d_assign rfl)) ?_
          refine OpsW.nil ?_
          refine Ex.inBlock_mk ?_
          refine Ex.then_mk ?_
          refine AB.rw ?_
          refine wS (v := (eI .i64 (IntKind.i64.wrap (x26 + 1)))) (sv (d_bin rfl rfl (bin_add ..))) ?_
          refine wS (v := (eI .i64 (IntKind.i64.wrap (x26 + 1)))) (sv (d_move rfl)) ?_
          refine OpsW.nil ?_
          refine Ex.then_mk ?_
          exact ⟨IntKind.i64.wrap (x26 + 1), x34, hr6, (Ghost.rn [2] rfl rfl (FLe.same rfl (FLe.same rfl (FLe.same rfl (FLe.same rfl (FLe.same rfl (FLe.same rfl FLe.nil)))))) (HLe.live rfl (les_map (fun _ => rfl) _) (all_map (fun _ => rfl) _) HLe.nil) rfl)⟩
        · replace hr6 := iteF hr6 h15
          refine AB.exit ?_
          refine Ex.then_exit_mk ?_
          refine Ex.then_exit_mk ?_
          refine Ex.inBlock_same_mk ?_
          obtain rfl := Option.some.inj hr6
          refine Ex.then_mk ?_
          exact hG2 _ _ _ _ (Ghost.rn [0] rfl rfl (FLe.same rfl (FLe.same rfl (FLe.same rfl FLe.nil))) (HLe.live rfl (les_map (fun _ => rfl) _) (all_map (fun _ => rfl) _) HLe.nil) rfl) (J2 l0_1 hr)
    rcases Bool.eq_false_or_eq_true (decide (120 < (b.length : Int))) with h18 | h18
    · replace hr := iteT hr h18
      refine AB.rw ?_
      refine wS (v := (.row none 1 (b.map (eI .u8)))) (sv (d_move rfl)) ?_
      refine wS (v := (eI .i64 (b.length : Int))) (sv (d_len rfl (lenR ti22))) ?_
      refine wS (v := (eB (decide (120 < (b.length : Int))))) (sv (d_bin rfl rfl (bin_gtr ..))) ?_
      refine wS (v := (eB (decide (120 < (b.length : Int))))) (sv (d_move rfl)) ?_
      refine wS (svX rfl rfl h18) ?_
      refine wS (svX rfl rfl h18) ?_
      refine wS (svX rfl rfl h18) ?_
      refine wS (v := (eB true)) (sv (d_pickT rfl h18 rfl)) ?_
      refine OpsW.nil ?_
      refine Ex.then_mk ?_
      exact hG1 _ _ _ _ (Ghost.rn [] rfl rfl (FLe.same rfl (FLe.same rfl (FLe.same rfl FLe.nil))) HLe.nil rfl) (J1 true hr)
    · replace hr := iteF hr h18
      refine AB.rw ?_
      refine wS (v := (.row none 1 (b.map (eI .u8)))) (sv (d_move rfl)) ?_
      refine wS (v := (eI .i64 (b.length : Int))) (sv (d_len rfl (lenR ti22))) ?_
      refine wS (v := (eB (decide (120 < (b.length : Int))))) (sv (d_bin rfl rfl (bin_gtr ..))) ?_
      refine wS (v := (eB (decide (120 < (b.length : Int))))) (sv (d_move rfl)) ?_
      refine wS (v := (.row none 1 (d.map (eI .u8)))) (svG rfl rfl h18 (d_move rfl)) ?_
      refine wS (v := (eI .i64 (d.length : Int))) (svG rfl rfl h18 (d_len rfl (lenR ti22))) ?_
      refine wS (v := (eB (decide (200 < (d.length : Int))))) (svG rfl rfl h18 (d_bin rfl rfl (bin_gtr ..))) ?_
      refine wS (v := (eB (decide (200 < (d.length : Int))))) (sv (d_pickF rfl h18 rfl)) ?_
      refine OpsW.nil ?_
      refine Ex.then_mk ?_
      exact hG1 _ _ _ _ (Ghost.rn [] rfl rfl (FLe.same rfl (FLe.same rfl (FLe.same rfl FLe.nil))) HLe.nil rfl) (J1 (decide (200 < (d.length : Int))) hr)
set_option maxRecDepth 20000 in
set_option maxHeartbeats 1000000 in
theorem mill_Mod_ok (N : Nat) (v : Int) (vn : Int) (r : Int) (hr : mill_Mod N v vn = some r) :
    Vm.Fn Try.prog 12 [] [(eI .i64 v), (eI .i64 vn)] (eI .i64 r) [] := by
  refine fn_ab Try.func12 rfl (by kernel_rfl) Try.ntmps12 (Nat.le_of_ble_eq_true rfl) rfl (fr := [(0, (eI .i64 v)), (1, (eI .i64 vn))]) rfl ?_
  unfold mill_Mod at hr
  refine AB.seq ?_
  refine AB.rw ?_
  refine wS (v := (eI .i64 0)) (sv (d_assign rfl)) ?_
  refine OpsW.nil ?_
  refine Ex.then_mk ?_
  refine AB.seq ?_
  replace hr := bnd hr; obtain ⟨x8, h_1, hr⟩ := hr
  refine AB.rw ?_
  refine wS (v := (eI .i64 v)) (sv (d_move rfl)) ?_
  refine wS (v := (eI .i64 vn)) (sv (d_move rfl)) ?_
  refine wS (v := (eI .i64 x8)) (sv (d_bin rfl rfl (bin_rem' _ _ _ _ h_1))) ?_
  refine wS (v := (eI .i64 x8)) (sv (d_assign rfl)) ?_
  refine OpsW.nil ?_
  refine Ex.then_mk ?_
  refine AB.seq_g fun K1 hK1 hG1 => ?_
  have J1 : ∀ (vr : Int), mill_Mod_J1 N vr = some r → K1 (mkF 15 [(5, (eI .i64 vr))]) [] := by
    intro vr hr
    unfold mill_Mod_J1 at hr
    refine hK1 _ _ ?_
    refine AB.seq ?_
    refine AB.rw ?_
    refine wS (v := (eI .i64 vr)) (sv (d_move rfl)) ?_
    refine wS (v := (eI .i64 vr)) (sv (d_assign rfl)) ?_
    refine OpsW.nil ?_
    refine Ex.then_mk ?_
    refine AB.ret ?_
    obtain rfl := Option.some.inj hr
    exact done_ret (r1 := (eI .i64 vr)) (res1 Try.results12 (rvT rfl)) (Ghost.rn [] rfl rfl (FLe.same rfl FLe.nil) HLe.nil rfl)
  refine AB.seq ?_
  refine AB.rw ?_
  refine wS (v := (eI .i64 x8)) (sv (d_move rfl)) ?_
  refine wS (v := (eB (decide (x8 < 0)))) (sv (d_bin rfl rfl (bin_lss ..))) ?_
  refine OpsW.nil ?_
  refine Ex.then_mk ?_
  refine AB.cnd rfl (fun h2 => ?_) (fun h2 => ?_)
  · replace hr := iteT hr h2
    refine AB.rw ?_
    refine wS (v := (eI .i64 x8)) (sv (d_move rfl)) ?_
    refine wS (v := (eI .i64 vn)) (sv (d_move rfl)) ?_
    refine wS (v := (eI .i64 (IntKind.i64.wrap (x8 + vn)))) (sv (d_bin rfl rfl (bin_add ..))) ?_
    refine wS (v := (eI .i64 (IntKind.i64.wrap (x8 + vn)))) (sv (d_assign rfl)) ?_
    refine OpsW.nil ?_
    refine Ex.then_mk ?_
    exact hG1 _ _ _ _ (Ghost.rn [] rfl rfl (FLe.same rfl FLe.nil) HLe.nil rfl) (J1 (IntKind.i64.wrap (x8 + vn)) hr)
  · replace hr := iteF hr h2
    refine AB.skip ?_
    refine Ex.then_mk ?_
    exact hG1 _ _ _ _ (Ghost.rn [] rfl rfl (FLe.same rfl FLe.nil) HLe.nil rfl) (J1 x8 hr)
set_option maxRecDepth 20000 in
set_option maxHeartbeats 1000000 in
theorem law27_prefix_ok (N : Nat) (vn : Int) (r : ByteArray) (hr : law27_prefix N vn = some r) :
    Vm.Fn Try.prog 11 [] [(eI .i64 vn)] (eS r) [] := by
  refine fn_ab Try.func11 rfl (by kernel_rfl) Try.ntmps11 (Nat.le_of_ble_eq_true rfl) rfl (fr := [(0, (eI .i64 vn))]) rfl ?_
  unfold law27_prefix at hr
  refine AB.seq ?_
  refine AB.rw ?_
  refine wS (v := (eS .empty)) (sv (d_assign rfl)) ?_
  refine OpsW.nil ?_
  refine Ex.then_mk ?_
  refine AB.seq ?_
  replace hr := bnd hr; obtain ⟨x5, h_1, hr⟩ := hr
  replace hr := bnd hr; obtain ⟨x6, h_2, hr⟩ := hr
  refine AB.rw ?_
  refine wS (v := (.sl 0 0 5 1 false)) (h' := [some ⟨9, [⟨#[108, 99]⟩, ⟨#[97]⟩, ⟨#[97, 98, 99, 100, 101, 102, 103, 104, 105, 106]⟩, ⟨#[122]⟩, ⟨#[116, 108, 99]⟩].map eS⟩]) (sv (d_buildS rfl (bldL1 (xs := [⟨#[108, 99]⟩, ⟨#[97]⟩, ⟨#[97, 98, 99, 100, 101, 102, 103, 104, 105, 106]⟩, ⟨#[122]⟩, ⟨#[116, 108, 99]⟩].map eS) ti36 ti9 (Nat.le_of_ble_eq_true rfl) (Nat.le_of_ble_eq_true rfl) rfl rfl rfl rfl rfl rfl rfl))) ?_
  refine wS (v := (eI .i64 vn)) (sv (d_move rfl)) ?_
  refine wC (v := (eI .i64 x5)) (h' := [some ⟨9, [⟨#[108, 99]⟩, ⟨#[97]⟩, ⟨#[97, 98, 99, 100, 101, 102, 103, 104, 105, 106]⟩, ⟨#[122]⟩, ⟨#[116, 108, 99]⟩].map eS⟩]) rfl (Vm.Fn.pure (mill_Mod_ok N vn 5 x5 h_1) rfl rfl) ?_
  refine wS (v := (.ptr 0 (Int.toNat x5))) (sv (d_ia rfl rfl (iaS rfl ti36 ti9 rfl h_2))) ?_
  refine wS (v := (eS x6)) (sv (d_load rfl (ldX (E := eS) (y := x6) ti9 rfl rfl h_2))) ?_
  refine wS (v := (eS x6)) (sv (d_assign rfl)) ?_
  refine OpsW.nil ?_
  refine Ex.then_mk ?_
  refine AB.ret ?_
  obtain rfl := Option.some.inj hr
  exact done_ret (r1 := (eS x6)) (res1 Try.results11 (rvT rfl)) (Ghost.rn [] rfl rfl (FLe.same rfl FLe.nil) HLe.nil rfl)
set_option maxRecDepth 20000 in
set_option maxHeartbeats 1000000 in
theorem address_Prefix_ok (N : Nat) (vs : ByteArray) (r : Bool) (hr : address_Prefix N vs = some r) :
    Vm.Fn Try.prog 13 [] [(eS vs)] (eB r) [] := by
  refine fn_ab Try.func13 rfl (by kernel_rfl) Try.ntmps13 (Nat.le_of_ble_eq_true rfl) rfl (fr := [(0, (eS vs))]) rfl ?_
  unfold address_Prefix at hr
  refine AB.seq ?_
  refine AB.rw ?_
  refine wS (v := (eB false)) (sv (d_assign rfl)) ?_
  refine OpsW.nil ?_
  refine Ex.then_mk ?_
  refine AB.seq_g fun K1 hK1 hG1 => ?_
  have J1 : address_Prefix_J1 N vs = some r → K1 (mkF 28 [(0, (eS vs))]) [] := by
    intro hr
    unfold address_Prefix_J1 at hr
    refine hK1 _ _ ?_
    refine AB.seq_g fun K2 hK2 hG2 => ?_
    have J2 : ∀ (x2 : Bool), address_Prefix_J2 N x2 = some r → K2 (mkF 28 [(2, (eB x2))]) [] := by
      intro x2 hr
      unfold address_Prefix_J2 at hr
      refine hK2 _ _ ?_
      refine AB.ret ?_
      obtain rfl := Option.some.inj hr
      exact done_ret (r1 := (eB x2)) (res1 Try.results13 (rvT rfl)) (Ghost.rn [] rfl rfl (FLe.same rfl FLe.nil) HLe.nil rfl)
    rcases Bool.eq_false_or_eq_true (decide (1 ≤ (vs.size : Int))) with h1 | h1
    · replace hr := iteT hr h1
      refine AB.rw ?_
      refine wS (v := (eS vs)) (sv (d_move rfl)) ?_
      refine wS (v := (eI .i64 (vs.size : Int))) (sv (d_len rfl (lenT ti9))) ?_
      refine wS (v := (eB (decide (1 ≤ (vs.size : Int))))) (sv (d_bin rfl rfl (bin_geq ..))) ?_
      refine wS (v := (eB (decide (1 ≤ (vs.size : Int))))) (sv (d_move rfl)) ?_
      refine wS (v := (eS vs)) (svG rfl rfl h1 (d_move rfl)) ?_
      refine wS (v := (eI .i64 (vs.size : Int))) (svG rfl rfl h1 (d_len rfl (lenT ti9))) ?_
      refine wS (v := (eB (decide ((vs.size : Int) ≤ 10)))) (svG rfl rfl h1 (d_bin rfl rfl (bin_leq ..))) ?_
      refine wS (v := (eB (decide ((vs.size : Int) ≤ 10)))) (sv (d_pickT rfl h1 rfl)) ?_
      refine wS (v := (eB (decide ((vs.size : Int) ≤ 10)))) (sv (d_assign rfl)) ?_
      refine OpsW.nil ?_
      refine Ex.then_mk ?_
      exact hG2 _ _ _ _ (Ghost.rn [] rfl rfl (FLe.same rfl FLe.nil) HLe.nil rfl) (J2 (decide ((vs.size : Int) ≤ 10)) hr)
    · replace hr := iteF hr h1
      refine AB.rw ?_
      refine wS (v := (eS vs)) (sv (d_move rfl)) ?_
      refine wS (v := (eI .i64 (vs.size : Int))) (sv (d_len rfl (lenT ti9))) ?_
      refine wS (v := (eB (decide (1 ≤ (vs.size : Int))))) (sv (d_bin rfl rfl (bin_geq ..))) ?_
      refine wS (v := (eB (decide (1 ≤ (vs.size : Int))))) (sv (d_move rfl)) ?_
      refine wS (svX rfl rfl h1) ?_
      refine wS (svX rfl rfl h1) ?_
      refine wS (svX rfl rfl h1) ?_
      refine wS (v := (eB false)) (sv (d_pickF rfl h1 rfl)) ?_
      refine wS (v := (eB false)) (sv (d_assign rfl)) ?_
      refine OpsW.nil ?_
      refine Ex.then_mk ?_
      exact hG2 _ _ _ _ (Ghost.rn [] rfl rfl (FLe.same rfl FLe.nil) HLe.nil rfl) (J2 false hr)
  refine AB.seq ?_
  refine AB.rw ?_
  refine wS (v := (eS vs)) (sv (d_move rfl)) ?_
  refine wS (v := (eI .i64 (vs.size : Int))) (sv (d_len rfl (lenT ti9))) ?_
  refine wS (v := (eI .i64 0)) (sv (d_move rfl)) ?_
  refine OpsW.nil ?_
  refine Ex.then_mk ?_
  replace hr := bnd hr; obtain ⟨res3, hL3, hr⟩ := hr
  refine AB.block ?_
  refine AB.loopN (fun m s h => ∃ (x6 : Int), address_Prefix_L3 N vs m x6 = some res3 ∧ Ghost 0 s h (mkF 28 [(0, (eS vs)), (5, (eI .i64 (vs.size : Int))), (6, (eI .i64 x6))]) []) (n := N) ⟨0, hL3, (Ghost.rn [] rfl rfl (FLe.same rfl (FLe.same rfl (FLe.same rfl FLe.nil))) HLe.nil rfl)⟩ (by rintro s h ⟨_, h0, _⟩; simp [address_Prefix_L3] at h0) ?_
  rintro m3 s h ⟨x6, hr3, hg⟩
  refine AB.ghost hg ?_
  clear hg hL3
  rw [address_Prefix_L3] at hr3
  refine AB.seq ?_
  refine AB.rw ?_
  refine wS (v := (eB (decide (x6 < (vs.size : Int))))) (sv (d_bin rfl rfl (bin_lss ..))) ?_
  refine OpsW.nil ?_
  refine Ex.then_mk ?_
  refine AB.seq ?_
  refine AB.cnd rfl (fun h2 => ?_) (fun h2 => ?_)
  · replace hr3 := iteT hr3 h2
    refine AB.skip ?_
    refine Ex.then_mk ?_
    refine AB.seq ?_
    refine AB.block ?_
    refine AB.seq ?_
    refine AB.rw ?_
    refine wS (v := (eI .i64 x6)) (sv (d_move rfl)) ?_
    refine wS (v := (eI .i64 x6)) (sv (d_assign rfl)) ?_
    refine OpsW.nil ?_
    refine Ex.then_mk ?_
    refine AB.seq_g fun K4 hK4 hG4 => ?_
    have J4 : ∀ (x18 : Bool), address_Prefix_J4 N vs x6 (address_Prefix_L3 N vs m3) x18 = some res3 → K4 (mkF 28 [(0, (eS vs)), (5, (eI .i64 (vs.size : Int))), (6, (eI .i64 x6)), (18, (eB x18))]) [] := by
      intro x18 hr3
      unfold address_Prefix_J4 at hr3
      refine hK4 _ _ ?_
      refine AB.cnd rfl (fun h3 => ?_) (fun h3 => ?_)
      · replace hr3 := iteT hr3 h3
        refine AB.seq ?_
        refine AB.rw ?_
        refine wS (v := (eB false)) (sv (d_assign rfl)) ?_
        refine OpsW.nil ?_
        refine Ex.then_mk ?_
        refine AB.ret ?_
        refine Ex.inBlock_ret_mk ?_
        refine Ex.then_ret_mk ?_
        refine Ex.then_ret_mk ?_
        refine Ex.inBlock_ret_mk ?_
        refine Ex.then_ret_mk ?_
        obtain rfl := Option.some.inj hr3
        obtain rfl := Option.some.inj hr
        exact done_ret (r1 := (eB false)) (res1 Try.results13 (rvT rfl)) (Ghost.rn [] rfl rfl (FLe.same rfl FLe.nil) HLe.nil rfl)
      · replace hr3 := iteF hr3 h3
        refine AB.skip ?_
        refine Ex.inBlock_mk ?_
        refine Ex.then_mk ?_
        refine AB.rw ?_
        refine wS (v := (eI .i64 (IntKind.i64.wrap (x6 + 1)))) (sv (d_bin rfl rfl (bin_add ..))) ?_
        refine wS (v := (eI .i64 (IntKind.i64.wrap (x6 + 1)))) (sv (d_move rfl)) ?_
        refine OpsW.nil ?_
        refine Ex.then_mk ?_
        exact ⟨IntKind.i64.wrap (x6 + 1), hr3, (Ghost.rn [] rfl rfl (FLe.same rfl (FLe.same rfl (FLe.same rfl FLe.nil))) HLe.nil rfl)⟩
    replace hr3 := bnd hr3; obtain ⟨x11, h_4, hr3⟩ := hr3
    rcases Bool.eq_false_or_eq_true (decide (x11 < 97)) with h5 | h5
    · replace hr3 := iteT hr3 h5
      refine AB.rw ?_
      refine wS (v := (eS vs)) (sv (d_move rfl)) ?_
      refine wS (v := (eI .i64 x6)) (sv (d_move rfl)) ?_
      refine wS (v := (eI .u8 x11)) (sv (d_ix rfl rfl (ixT ti9 rfl h_4))) ?_
      refine wS (v := (eB (decide (x11 < 97)))) (sv (d_bin rfl rfl (bin_lss ..))) ?_
      refine wS (v := (eB (decide (x11 < 97)))) (sv (d_move rfl)) ?_
      refine wS (svX rfl rfl h5) ?_
      refine wS (svX rfl rfl h5) ?_
      refine wS (svX rfl rfl h5) ?_
      refine wS (svX rfl rfl h5) ?_
      refine wS (v := (eB true)) (sv (d_pickT rfl h5 rfl)) ?_
      refine OpsW.nil ?_
      refine Ex.then_mk ?_
      exact hG4 _ _ _ _ (Ghost.rn [] rfl rfl (FLe.same rfl (FLe.same rfl (FLe.same rfl (FLe.same rfl FLe.nil)))) HLe.nil rfl) (J4 true hr3)
    · replace hr3 := iteF hr3 h5
      refine AB.rw ?_
      refine wS (v := (eS vs)) (sv (d_move rfl)) ?_
      refine wS (v := (eI .i64 x6)) (sv (d_move rfl)) ?_
      refine wS (v := (eI .u8 x11)) (sv (d_ix rfl rfl (ixT ti9 rfl h_4))) ?_
      refine wS (v := (eB (decide (x11 < 97)))) (sv (d_bin rfl rfl (bin_lss ..))) ?_
      refine wS (v := (eB (decide (x11 < 97)))) (sv (d_move rfl)) ?_
      refine wS (v := (eS vs)) (svG rfl rfl h5 (d_move rfl)) ?_
      refine wS (v := (eI .i64 x6)) (svG rfl rfl h5 (d_move rfl)) ?_
      refine wS (v := (eI .u8 x11)) (svG rfl rfl h5 (d_ix rfl rfl (ixT ti9 rfl h_4))) ?_
      refine wS (v := (eB (decide (122 < x11)))) (svG rfl rfl h5 (d_bin rfl rfl (bin_gtr ..))) ?_
      refine wS (v := (eB (decide (122 < x11)))) (sv (d_pickF rfl h5 rfl)) ?_
      refine OpsW.nil ?_
      refine Ex.then_mk ?_
      exact hG4 _ _ _ _ (Ghost.rn [] rfl rfl (FLe.same rfl (FLe.same rfl (FLe.same rfl (FLe.same rfl FLe.nil)))) HLe.nil rfl) (J4 (decide (122 < x11)) hr3)
  · replace hr3 := iteF hr3 h2
    refine AB.exit ?_
    refine Ex.then_exit_mk ?_
    refine Ex.then_exit_mk ?_
    refine Ex.inBlock_same_mk ?_
    obtain rfl := Option.some.inj hr3
    refine Ex.then_mk ?_
    exact hG1 _ _ _ _ (Ghost.rn [] rfl rfl (FLe.same rfl FLe.nil) HLe.nil rfl) (J1 hr)
set_option maxRecDepth 20000 in
set_option maxHeartbeats 1000000 in
theorem ref27_Prefix_ok (N : Nat) (vs : ByteArray) (r : Bool) (hr : ref27_Prefix N vs = some r) :
    Vm.Fn Try.prog 14 [] [(eS vs)] (eB r) [] := by
  refine fn_ab Try.func14 rfl (by kernel_rfl) Try.ntmps14 (Nat.le_of_ble_eq_true rfl) rfl (fr := [(0, (eS vs))]) rfl ?_
  unfold ref27_Prefix at hr
  refine AB.seq ?_
  refine AB.rw ?_
  refine wS (v := (eB false)) (sv (d_assign rfl)) ?_
  refine OpsW.nil ?_
  refine Ex.then_mk ?_
  refine AB.seq_g fun K1 hK1 hG1 => ?_
  have J1 : ref27_Prefix_J1 N vs = some r → K1 (mkF 28 [(0, (eS vs))]) [] := by
    intro hr
    unfold ref27_Prefix_J1 at hr
    refine hK1 _ _ ?_
    refine AB.seq_g fun K2 hK2 hG2 => ?_
    have J2 : ∀ (x2 : Bool), ref27_Prefix_J2 N x2 = some r → K2 (mkF 28 [(2, (eB x2))]) [] := by
      intro x2 hr
      unfold ref27_Prefix_J2 at hr
      refine hK2 _ _ ?_
      refine AB.ret ?_
      obtain rfl := Option.some.inj hr
      exact done_ret (r1 := (eB x2)) (res1 Try.results14 (rvT rfl)) (Ghost.rn [] rfl rfl (FLe.same rfl FLe.nil) HLe.nil rfl)
    rcases Bool.eq_false_or_eq_true (decide (1 ≤ (vs.size : Int))) with h1 | h1
    · replace hr := iteT hr h1
      refine AB.rw ?_
      refine wS (v := (eS vs)) (sv (d_move rfl)) ?_
      refine wS (v := (eI .i64 (vs.size : Int))) (sv (d_len rfl (lenT ti9))) ?_
      refine wS (v := (eB (decide (1 ≤ (vs.size : Int))))) (sv (d_bin rfl rfl (bin_geq ..))) ?_
      refine wS (v := (eB (decide (1 ≤ (vs.size : Int))))) (sv (d_move rfl)) ?_
      refine wS (v := (eS vs)) (svG rfl rfl h1 (d_move rfl)) ?_
      refine wS (v := (eI .i64 (vs.size : Int))) (svG rfl rfl h1 (d_len rfl (lenT ti9))) ?_
      refine wS (v := (eB (decide ((vs.size : Int) ≤ 10)))) (svG rfl rfl h1 (d_bin rfl rfl (bin_leq ..))) ?_
      refine wS (v := (eB (decide ((vs.size : Int) ≤ 10)))) (sv (d_pickT rfl h1 rfl)) ?_
      refine wS (v := (eB (decide ((vs.size : Int) ≤ 10)))) (sv (d_assign rfl)) ?_
      refine OpsW.nil ?_
      refine Ex.then_mk ?_
      exact hG2 _ _ _ _ (Ghost.rn [] rfl rfl (FLe.same rfl FLe.nil) HLe.nil rfl) (J2 (decide ((vs.size : Int) ≤ 10)) hr)
    · replace hr := iteF hr h1
      refine AB.rw ?_
      refine wS (v := (eS vs)) (sv (d_move rfl)) ?_
      refine wS (v := (eI .i64 (vs.size : Int))) (sv (d_len rfl (lenT ti9))) ?_
      refine wS (v := (eB (decide (1 ≤ (vs.size : Int))))) (sv (d_bin rfl rfl (bin_geq ..))) ?_
      refine wS (v := (eB (decide (1 ≤ (vs.size : Int))))) (sv (d_move rfl)) ?_
      refine wS (svX rfl rfl h1) ?_
      refine wS (svX rfl rfl h1) ?_
      refine wS (svX rfl rfl h1) ?_
      refine wS (v := (eB false)) (sv (d_pickF rfl h1 rfl)) ?_
      refine wS (v := (eB false)) (sv (d_assign rfl)) ?_
      refine OpsW.nil ?_
      refine Ex.then_mk ?_
      exact hG2 _ _ _ _ (Ghost.rn [] rfl rfl (FLe.same rfl FLe.nil) HLe.nil rfl) (J2 false hr)
  refine AB.seq ?_
  refine AB.rw ?_
  refine wS (v := (eI .i64 0)) (sv (d_assign rfl)) ?_
  refine OpsW.nil ?_
  refine Ex.then_mk ?_
  replace hr := bnd hr; obtain ⟨res3, hL3, hr⟩ := hr
  refine AB.block ?_
  refine AB.loopN (fun m s h => ∃ (vi : Int), ref27_Prefix_L3 N vs m vi = some res3 ∧ Ghost 0 s h (mkF 28 [(0, (eS vs)), (3, (eI .i64 vi))]) []) (n := N) ⟨0, hL3, (Ghost.rn [] rfl rfl (FLe.same rfl (FLe.same rfl FLe.nil)) HLe.nil rfl)⟩ (by rintro s h ⟨_, h0, _⟩; simp [ref27_Prefix_L3] at h0) ?_
  rintro m3 s h ⟨vi, hr3, hg⟩
  refine AB.ghost hg ?_
  clear hg hL3
  rw [ref27_Prefix_L3] at hr3
  refine AB.seq ?_
  refine AB.seq ?_
  refine AB.rw ?_
  refine wS (v := (eI .i64 vi)) (sv (d_move rfl)) ?_
  refine wS (v := (eS vs)) (sv (d_move rfl)) ?_
  refine wS (v := (eI .i64 (vs.size : Int))) (sv (d_len rfl (lenT ti9))) ?_
  refine wS (v := (eB (decide (vi < (vs.size : Int))))) (sv (d_bin rfl rfl (bin_lss ..))) ?_
  refine OpsW.nil ?_
  refine Ex.then_mk ?_
  refine AB.cnd rfl (fun h2 => ?_) (fun h2 => ?_)
  · replace hr3 := iteT hr3 h2
    refine AB.skip ?_
    refine Ex.then_mk ?_
    refine AB.seq ?_
    refine AB.block ?_
    refine AB.seq_g fun K4 hK4 hG4 => ?_
    have J4 : ∀ (x19 : Bool), ref27_Prefix_J4 N vs vi (ref27_Prefix_L3 N vs m3) x19 = some res3 → K4 (mkF 28 [(0, (eS vs)), (3, (eI .i64 vi)), (19, (eB x19))]) [] := by
      intro x19 hr3
      unfold ref27_Prefix_J4 at hr3
      refine hK4 _ _ ?_
      refine AB.cnd rfl (fun h3 => ?_) (fun h3 => ?_)
      · replace hr3 := iteT hr3 h3
        refine AB.seq ?_
        refine AB.rw ?_
        refine wS (v := (eB false)) (sv (d_assign rfl)) ?_
        refine OpsW.nil ?_
        refine Ex.then_mk ?_
        refine AB.ret ?_
        refine Ex.inBlock_ret_mk ?_
        refine Ex.then_ret_mk ?_
        refine Ex.then_ret_mk ?_
        refine Ex.inBlock_ret_mk ?_
        refine Ex.then_ret_mk ?_
        obtain rfl := Option.some.inj hr3
        obtain rfl := Option.some.inj hr
        exact done_ret (r1 := (eB false)) (res1 Try.results14 (rvT rfl)) (Ghost.rn [] rfl rfl (FLe.same rfl FLe.nil) HLe.nil rfl)
      · replace hr3 := iteF hr3 h3
        refine AB.skip ?_
        refine Ex.inBlock_mk ?_
        refine Ex.then_mk ?_
        refine AB.rw ?_
        refine wS (v := (eI .i64 vi)) (sv (d_move rfl)) ?_
        refine wS (v := (eI .i64 (IntKind.i64.wrap (vi + 1)))) (sv (d_bin rfl rfl (bin_add ..))) ?_
        refine wS (v := (eI .i64 (IntKind.i64.wrap (vi + 1)))) (sv (d_assign rfl)) ?_
        refine OpsW.nil ?_
        refine Ex.then_mk ?_
        exact ⟨IntKind.i64.wrap (vi + 1), hr3, (Ghost.rn [] rfl rfl (FLe.same rfl (FLe.same rfl FLe.nil)) HLe.nil rfl)⟩
    replace hr3 := bnd hr3; obtain ⟨x12, h_4, hr3⟩ := hr3
    rcases Bool.eq_false_or_eq_true (decide (x12 < 97)) with h5 | h5
    · replace hr3 := iteT hr3 h5
      refine AB.rw ?_
      refine wS (v := (eS vs)) (sv (d_move rfl)) ?_
      refine wS (v := (eI .i64 vi)) (sv (d_move rfl)) ?_
      refine wS (v := (eI .u8 x12)) (sv (d_ix rfl rfl (ixT ti9 rfl h_4))) ?_
      refine wS (v := (eB (decide (x12 < 97)))) (sv (d_bin rfl rfl (bin_lss ..))) ?_
      refine wS (v := (eB (decide (x12 < 97)))) (sv (d_move rfl)) ?_
      refine wS (svX rfl rfl h5) ?_
      refine wS (svX rfl rfl h5) ?_
      refine wS (svX rfl rfl h5) ?_
      refine wS (svX rfl rfl h5) ?_
      refine wS (v := (eB true)) (sv (d_pickT rfl h5 rfl)) ?_
      refine OpsW.nil ?_
      refine Ex.then_mk ?_
      exact hG4 _ _ _ _ (Ghost.rn [] rfl rfl (FLe.same rfl (FLe.same rfl (FLe.same rfl FLe.nil))) HLe.nil rfl) (J4 true hr3)
    · replace hr3 := iteF hr3 h5
      refine AB.rw ?_
      refine wS (v := (eS vs)) (sv (d_move rfl)) ?_
      refine wS (v := (eI .i64 vi)) (sv (d_move rfl)) ?_
      refine wS (v := (eI .u8 x12)) (sv (d_ix rfl rfl (ixT ti9 rfl h_4))) ?_
      refine wS (v := (eB (decide (x12 < 97)))) (sv (d_bin rfl rfl (bin_lss ..))) ?_
      refine wS (v := (eB (decide (x12 < 97)))) (sv (d_move rfl)) ?_
      refine wS (v := (eS vs)) (svG rfl rfl h5 (d_move rfl)) ?_
      refine wS (v := (eI .i64 vi)) (svG rfl rfl h5 (d_move rfl)) ?_
      refine wS (v := (eI .u8 x12)) (svG rfl rfl h5 (d_ix rfl rfl (ixT ti9 rfl h_4))) ?_
      refine wS (v := (eB (decide (122 < x12)))) (svG rfl rfl h5 (d_bin rfl rfl (bin_gtr ..))) ?_
      refine wS (v := (eB (decide (122 < x12)))) (sv (d_pickF rfl h5 rfl)) ?_
      refine OpsW.nil ?_
      refine Ex.then_mk ?_
      exact hG4 _ _ _ _ (Ghost.rn [] rfl rfl (FLe.same rfl (FLe.same rfl (FLe.same rfl FLe.nil))) HLe.nil rfl) (J4 (decide (122 < x12)) hr3)
  · replace hr3 := iteF hr3 h2
    refine AB.exit ?_
    refine Ex.then_exit_mk ?_
    refine Ex.then_exit_mk ?_
    refine Ex.inBlock_same_mk ?_
    obtain rfl := Option.some.inj hr3
    refine Ex.then_mk ?_
    exact hG1 _ _ _ _ (Ghost.rn [] rfl rfl (FLe.same rfl FLe.nil) HLe.nil rfl) (J1 hr)
set_option maxRecDepth 20000 in
set_option maxHeartbeats 1000000 in
theorem law27_AddressPrefix_ok (N : Nat) (vs : ByteArray) (vn : Int) (vat : Int) (vby : Int) (r : Bool) (hr : law27_AddressPrefix N vs vn vat vby = some r) :
    Vm.Fn Try.prog 4 [] [(eS vs), (eI .i64 vn), (eI .i64 vat), (eI .i64 vby)] (eB r) [] := by
  refine fn_ab Try.func4 rfl (by kernel_rfl) Try.ntmps4 (Nat.le_of_ble_eq_true rfl) rfl (fr := [(0, (eS vs)), (1, (eI .i64 vn)), (2, (eI .i64 vat)), (3, (eI .i64 vby))]) rfl ?_
  unfold law27_AddressPrefix at hr
  refine AB.seq ?_
  refine AB.rw ?_
  refine wS (v := (eB false)) (sv (d_assign rfl)) ?_
  refine OpsW.nil ?_
  refine Ex.then_mk ?_
  refine AB.seq ?_
  refine AB.seq ?_
  replace hr := bnd hr; obtain ⟨x10, h_1, hr⟩ := hr
  refine AB.rw ?_
  refine wC (v := (eB x10)) (h' := []) rfl (Vm.Fn.pure (law27_sane_ok N x10 h_1) rfl rfl) ?_
  refine wS (v := (eB (!x10))) (sv (d_un rfl (un_not _ _))) ?_
  refine OpsW.nil ?_
  refine Ex.then_mk ?_
  refine AB.cnd rfl (fun h2 => ?_) (fun h2 => ?_)
  · replace hr := iteT hr h2
    refine AB.seq ?_
    refine AB.rw ?_
    refine wS (v := (eB false)) (sv (d_assign rfl)) ?_
    refine OpsW.nil ?_
    refine Ex.then_mk ?_
    refine AB.ret ?_
    refine Ex.then_ret_mk ?_
    obtain rfl := Option.some.inj hr
    exact done_ret (r1 := (eB false)) (res1 Try.results4 (rvT rfl)) (Ghost.rn [] rfl rfl (FLe.same rfl FLe.nil) HLe.nil rfl)
  · replace hr := iteF hr h2
    refine AB.skip ?_
    refine Ex.then_mk ?_
    refine AB.seq ?_
    refine AB.seq ?_
    refine AB.rw ?_
    refine wS (v := (eS vs)) (sv (d_move rfl)) ?_
    refine wS (v := (eI .i64 (vs.size : Int))) (sv (d_len rfl (lenT ti9))) ?_
    refine wS (v := (eB (decide (100 < (vs.size : Int))))) (sv (d_bin rfl rfl (bin_gtr ..))) ?_
    refine OpsW.nil ?_
    refine Ex.then_mk ?_
    refine AB.cnd rfl (fun h3 => ?_) (fun h3 => ?_)
    · replace hr := iteT hr h3
      refine AB.seq ?_
      refine AB.rw ?_
      refine wS (v := (eB true)) (sv (d_assign rfl)) ?_
      refine OpsW.nil ?_
      refine Ex.then_mk ?_
      refine AB.ret ?_
      refine Ex.then_ret_mk ?_
      obtain rfl := Option.some.inj hr
      exact done_ret (r1 := (eB true)) (res1 Try.results4 (rvT rfl)) (Ghost.rn [] rfl rfl (FLe.same rfl FLe.nil) HLe.nil rfl)
    · replace hr := iteF hr h3
      refine AB.skip ?_
      refine Ex.then_mk ?_
      refine AB.seq ?_
      replace hr := bnd hr; obtain ⟨x16, h_4, hr⟩ := hr
      replace hr := bnd hr; obtain ⟨x17, h_5, hr⟩ := hr
      refine AB.rw ?_
      refine wS (v := (eI .i64 vn)) (sv (d_move rfl)) ?_
      refine wC (v := (eS x16)) (h' := []) rfl (Vm.Fn.pure (law27_prefix_ok N vn x16 h_4) rfl rfl) ?_
      refine wStr (h' := [some ⟨5, x17.map (eI .u8)⟩]) rfl ti9 ti22 ti5 h_5 rfl rfl ?_
      refine wS (v := (.sl 0 0 x17.length 1 false)) (sv (d_assign rfl)) ?_
      refine OpsW.nil ?_
      refine Ex.then_mk ?_
      refine AB.seq ?_
      replace hr := bnd hr; obtain ⟨x22, h_6, hr⟩ := hr
      replace hr := bnd hr; obtain ⟨x25, h_7, hr⟩ := hr
      refine AB.rw ?_
      refine wS (v := (.sl 0 0 x17.length 1 false)) (sv (d_move rfl)) ?_
      refine wS (v := (eI .i64 vat)) (sv (d_move rfl)) ?_
      refine wS (v := (.sl 0 0 x17.length 1 false)) (sv (d_move rfl)) ?_
      refine wS (v := (eI .i64 (x17.length : Int))) (sv (d_len rfl (lenS ti22))) ?_
      refine wC (v := (eI .i64 x22)) (h' := [some ⟨5, x17.map (eI .u8)⟩]) rfl (Vm.Fn.pure (mill_Mod_ok N vat (x17.length : Int) x22 h_6) rfl rfl) ?_
      refine wS (v := (eI .i64 vby)) (sv (d_move rfl)) ?_
      refine wS (v := (eI .u8 (IntKind.u8.wrap vby))) (sv (d_conv rfl (conv_int _ ⟨_, ti3⟩ ti5 rfl))) ?_
      refine wS (v := (.ptr 0 (Int.toNat x22))) (sv (d_ia rfl rfl (iaS rfl ti22 ti5 rfl h_7))) ?_
      refine wN (h' := [some ⟨5, (x17.set (Int.toNat x22) (IntKind.u8.wrap vby)).map (eI .u8)⟩]) (sv (d_store rfl rfl (stXe (E := (eI .u8)) (y := IntKind.u8.wrap vby) ti5 rfl rfl h_7 rfl rfl rfl))) ?_
      refine OpsW.nil ?_
      refine Ex.then_mk ?_
      refine AB.seq_g fun K1 hK1 hG1 => ?_
      have J1 : ∀ (x8 : Bool), law27_AddressPrefix_J1 N x8 = some r → K1 (mkF 45 [(8, (eB x8))]) [] := by
        intro x8 hr
        unfold law27_AddressPrefix_J1 at hr
        refine hK1 _ _ ?_
        refine AB.ret ?_
        obtain rfl := Option.some.inj hr
        exact done_ret (r1 := (eB x8)) (res1 Try.results4 (rvT rfl)) (Ghost.rn [] rfl rfl (FLe.same rfl FLe.nil) HLe.nil rfl)
      replace hr := bnd hr; obtain ⟨x27, h_8, hr⟩ := hr
      replace hr := bnd hr; obtain ⟨x29, h_10, hr⟩ := hr
      rcases Bool.eq_false_or_eq_true (x27 == x29) with h12 | h12
      · replace hr := iteT hr h12
        replace hr := bnd hr; obtain ⟨x34, h_14, hr⟩ := hr
        rcases Bool.eq_false_or_eq_true x34 with h16 | h16
        · replace hr := iteT hr h16
          replace hr := bnd hr; obtain ⟨x39, h_17, hr⟩ := hr
          replace hr := bnd hr; obtain ⟨x42, h_19, hr⟩ := hr
          refine AB.rd (memF [11, 13, 14]) (memF []) mixed ?_
          refine DrawG.pick (n := 19) (i := 0) (by decide +kernel) rfl (gS (v := (eS vs)) (sv (d_move rfl))) ?_
          refine DrawG.pick (n := 18) (i := 1) (by decide +kernel) rfl (gC (v := (eB x27)) (h' := [some ⟨5, (x17.set (Int.toNat x22) (IntKind.u8.wrap vby)).map (eI .u8)⟩]) (Vm.Fn.pure (address_Prefix_ok N vs x27 h_8) rfl rfl) (fun _ => rfl) (fun h => absurd h (by decide)) (sv (d_call rfl orc1_hit))) ?_
          refine DrawG.pick (n := 17) (i := 2) (by decide +kernel) rfl (gS (v := (eS vs)) (sv (d_move rfl))) ?_
          refine DrawG.pick (n := 16) (i := 3) (by decide +kernel) rfl (gC (v := (eB x29)) (h' := [some ⟨5, (x17.set (Int.toNat x22) (IntKind.u8.wrap vby)).map (eI .u8)⟩]) (Vm.Fn.pure (ref27_Prefix_ok N vs x29 h_10) rfl rfl) (fun _ => rfl) (fun h => absurd h (by decide)) (sv (d_call rfl orc1_hit))) ?_
          refine DrawG.pick (n := 15) (i := 4) (by decide +kernel) rfl (gS (v := (eB (x27 == x29))) (sv (d_bin rfl rfl (bin_eqlB _ _ ti4 ..)))) ?_
          refine DrawG.pick (n := 14) (i := 5) (by decide +kernel) rfl (gS (v := (eB (x27 == x29))) (sv (d_move rfl))) ?_
          refine DrawG.pick (n := 13) (i := 6) (by decide +kernel) rfl (gS (v := (eI .i64 vn)) (svG rfl rfl h12 (d_move rfl))) ?_
          refine DrawG.pick (n := 12) (i := 7) (by decide +kernel) rfl (gC (v := (eS x16)) (h' := [some ⟨5, (x17.set (Int.toNat x22) (IntKind.u8.wrap vby)).map (eI .u8)⟩]) (Vm.Fn.pure (law27_prefix_ok N vn x16 h_4) rfl rfl) (fun _ => rfl) (fun h => absurd h (by decide)) (svG rfl rfl h12 (d_call rfl orc1_hit))) ?_
          refine DrawG.pick (n := 11) (i := 8) (by decide +kernel) rfl (gC (v := (eB x34)) (h' := [some ⟨5, (x17.set (Int.toNat x22) (IntKind.u8.wrap vby)).map (eI .u8)⟩]) (Vm.Fn.pure (address_Prefix_ok N x16 x34 h_14) rfl rfl) (fun _ => rfl) (fun h => absurd h (by decide)) (svG rfl rfl h12 (d_call rfl orc1_hit))) ?_
          refine DrawG.pick (n := 10) (i := 9) (by decide +kernel) rfl (gS (v := (eB x34)) (sv (d_pickT rfl h12 rfl))) ?_
          refine DrawG.pick (n := 9) (i := 10) (by decide +kernel) rfl (gS (v := (eB x34)) (sv (d_move rfl))) ?_
          refine DrawG.pick (n := 8) (i := 11) (by decide +kernel) rfl (gS (v := (.sl 0 0 x17.length 1 false)) (svG rfl rfl h16 (d_move rfl))) ?_
          refine DrawG.pick (n := 7) (i := 12) (by decide +kernel) rfl (gS (v := (eS (strOf (x17.set (Int.toNat x22) (IntKind.u8.wrap vby))))) (svG rfl rfl h16 (d_conv rfl (convB ti22 ti9 ti5 (srcS (by simp only [len_set, len_cpy]) rfl))))) ?_
          refine DrawG.pick (n := 6) (i := 13) (by decide +kernel) rfl (gC (v := (eB x39)) (h' := [some ⟨5, (x17.set (Int.toNat x22) (IntKind.u8.wrap vby)).map (eI .u8)⟩]) (Vm.Fn.pure (address_Prefix_ok N (strOf (x17.set (Int.toNat x22) (IntKind.u8.wrap vby))) x39 h_17) rfl rfl) (fun _ => rfl) (fun h => absurd h (by decide)) (svG rfl rfl h16 (d_call rfl orc1_hit))) ?_
          refine DrawG.pick (n := 5) (i := 14) (by decide +kernel) rfl (gS (v := (.sl 0 0 x17.length 1 false)) (svG rfl rfl h16 (d_move rfl))) ?_
          refine DrawG.pick (n := 4) (i := 15) (by decide +kernel) rfl (gS (v := (eS (strOf (x17.set (Int.toNat x22) (IntKind.u8.wrap vby))))) (svG rfl rfl h16 (d_conv rfl (convB ti22 ti9 ti5 (srcS (by simp only [len_set, len_cpy]) rfl))))) ?_
          refine DrawG.pick (n := 3) (i := 16) (by decide +kernel) rfl (gC (v := (eB x42)) (h' := [some ⟨5, (x17.set (Int.toNat x22) (IntKind.u8.wrap vby)).map (eI .u8)⟩]) (Vm.Fn.pure (ref27_Prefix_ok N (strOf (x17.set (Int.toNat x22) (IntKind.u8.wrap vby))) x42 h_19) rfl rfl) (fun _ => rfl) (fun h => absurd h (by decide)) (svG rfl rfl h16 (d_call rfl orc1_hit))) ?_
          refine DrawG.pick (n := 2) (i := 17) (by decide +kernel) rfl (gS (v := (eB (x39 == x42))) (svG rfl rfl h16 (d_bin rfl rfl (bin_eqlB _ _ ti4 ..)))) ?_
          refine DrawG.pick (n := 1) (i := 18) (by decide +kernel) rfl (gS (v := (eB (x39 == x42))) (sv (d_pickT rfl h16 rfl))) ?_
          refine DrawG.pick (n := 0) (i := 19) (by decide +kernel) rfl (gS (v := (eB (x39 == x42))) (sv (d_assign rfl))) ?_
          refine DrawG.nil (by decide +kernel) ?_
          refine Ex.then_mk ?_
          exact hG1 _ _ _ _ (Ghost.rn [] rfl rfl (FLe.same rfl FLe.nil) HLe.nil rfl) (J1 (x39 == x42) hr)
        · replace hr := iteF hr h16
          refine AB.rd (memF [11, 13, 14]) (memF []) mixed ?_
          refine DrawG.pick (n := 19) (i := 0) (by decide +kernel) rfl (gS (v := (eS vs)) (sv (d_move rfl))) ?_
          refine DrawG.pick (n := 18) (i := 1) (by decide +kernel) rfl (gC (v := (eB x27)) (h' := [some ⟨5, (x17.set (Int.toNat x22) (IntKind.u8.wrap vby)).map (eI .u8)⟩]) (Vm.Fn.pure (address_Prefix_ok N vs x27 h_8) rfl rfl) (fun _ => rfl) (fun h => absurd h (by decide)) (sv (d_call rfl orc1_hit))) ?_
          refine DrawG.pick (n := 17) (i := 2) (by decide +kernel) rfl (gS (v := (eS vs)) (sv (d_move rfl))) ?_
          refine DrawG.pick (n := 16) (i := 3) (by decide +kernel) rfl (gC (v := (eB x29)) (h' := [some ⟨5, (x17.set (Int.toNat x22) (IntKind.u8.wrap vby)).map (eI .u8)⟩]) (Vm.Fn.pure (ref27_Prefix_ok N vs x29 h_10) rfl rfl) (fun _ => rfl) (fun h => absurd h (by decide)) (sv (d_call rfl orc1_hit))) ?_
          refine DrawG.pick (n := 15) (i := 4) (by decide +kernel) rfl (gS (v := (eB (x27 == x29))) (sv (d_bin rfl rfl (bin_eqlB _ _ ti4 ..)))) ?_
          refine DrawG.pick (n := 14) (i := 5) (by decide +kernel) rfl (gS (v := (eB (x27 == x29))) (sv (d_move rfl))) ?_
          refine DrawG.pick (n := 13) (i := 6) (by decide +kernel) rfl (gS (v := (eI .i64 vn)) (svG rfl rfl h12 (d_move rfl))) ?_
          refine DrawG.pick (n := 12) (i := 7) (by decide +kernel) rfl (gC (v := (eS x16)) (h' := [some ⟨5, (x17.set (Int.toNat x22) (IntKind.u8.wrap vby)).map (eI .u8)⟩]) (Vm.Fn.pure (law27_prefix_ok N vn x16 h_4) rfl rfl) (fun _ => rfl) (fun h => absurd h (by decide)) (svG rfl rfl h12 (d_call rfl orc1_hit))) ?_
          refine DrawG.pick (n := 11) (i := 8) (by decide +kernel) rfl (gC (v := (eB x34)) (h' := [some ⟨5, (x17.set (Int.toNat x22) (IntKind.u8.wrap vby)).map (eI .u8)⟩]) (Vm.Fn.pure (address_Prefix_ok N x16 x34 h_14) rfl rfl) (fun _ => rfl) (fun h => absurd h (by decide)) (svG rfl rfl h12 (d_call rfl orc1_hit))) ?_
          refine DrawG.pick (n := 10) (i := 9) (by decide +kernel) rfl (gS (v := (eB x34)) (sv (d_pickT rfl h12 rfl))) ?_
          refine DrawG.pick (n := 9) (i := 10) (by decide +kernel) rfl (gS (v := (eB x34)) (sv (d_move rfl))) ?_
          refine DrawG.pick (n := 8) (i := 11) (by decide +kernel) rfl (gS (svX rfl rfl h16)) ?_
          refine DrawG.pick (n := 7) (i := 12) (by decide +kernel) rfl (gS (svX rfl rfl h16)) ?_
          refine DrawG.pick (n := 6) (i := 13) (by decide +kernel) rfl (gS (svX rfl rfl h16)) ?_
          refine DrawG.pick (n := 5) (i := 14) (by decide +kernel) rfl (gS (svX rfl rfl h16)) ?_
          refine DrawG.pick (n := 4) (i := 15) (by decide +kernel) rfl (gS (svX rfl rfl h16)) ?_
          refine DrawG.pick (n := 3) (i := 16) (by decide +kernel) rfl (gS (svX rfl rfl h16)) ?_
          refine DrawG.pick (n := 2) (i := 17) (by decide +kernel) rfl (gS (svX rfl rfl h16)) ?_
          refine DrawG.pick (n := 1) (i := 18) (by decide +kernel) rfl (gS (v := (eB false)) (sv (d_pickF rfl h16 rfl))) ?_
          refine DrawG.pick (n := 0) (i := 19) (by decide +kernel) rfl (gS (v := (eB false)) (sv (d_assign rfl))) ?_
          refine DrawG.nil (by decide +kernel) ?_
          refine Ex.then_mk ?_
          exact hG1 _ _ _ _ (Ghost.rn [] rfl rfl (FLe.same rfl FLe.nil) HLe.nil rfl) (J1 false hr)
      · replace hr := iteF hr h12
        refine AB.rd (memF [11, 13, 14]) (memF []) mixed ?_
        refine DrawG.pick (n := 19) (i := 0) (by decide +kernel) rfl (gS (v := (eS vs)) (sv (d_move rfl))) ?_
        refine DrawG.pick (n := 18) (i := 1) (by decide +kernel) rfl (gC (v := (eB x27)) (h' := [some ⟨5, (x17.set (Int.toNat x22) (IntKind.u8.wrap vby)).map (eI .u8)⟩]) (Vm.Fn.pure (address_Prefix_ok N vs x27 h_8) rfl rfl) (fun _ => rfl) (fun h => absurd h (by decide)) (sv (d_call rfl orc1_hit))) ?_
        refine DrawG.pick (n := 17) (i := 2) (by decide +kernel) rfl (gS (v := (eS vs)) (sv (d_move rfl))) ?_
        refine DrawG.pick (n := 16) (i := 3) (by decide +kernel) rfl (gC (v := (eB x29)) (h' := [some ⟨5, (x17.set (Int.toNat x22) (IntKind.u8.wrap vby)).map (eI .u8)⟩]) (Vm.Fn.pure (ref27_Prefix_ok N vs x29 h_10) rfl rfl) (fun _ => rfl) (fun h => absurd h (by decide)) (sv (d_call rfl orc1_hit))) ?_
        refine DrawG.pick (n := 15) (i := 4) (by decide +kernel) rfl (gS (v := (eB (x27 == x29))) (sv (d_bin rfl rfl (bin_eqlB _ _ ti4 ..)))) ?_
        refine DrawG.pick (n := 14) (i := 5) (by decide +kernel) rfl (gS (v := (eB (x27 == x29))) (sv (d_move rfl))) ?_
        refine DrawG.pick (n := 13) (i := 6) (by decide +kernel) rfl (gS (svX rfl rfl h12)) ?_
        refine DrawG.pick (n := 12) (i := 7) (by decide +kernel) rfl (gS (svX rfl rfl h12)) ?_
        refine DrawG.pick (n := 11) (i := 8) (by decide +kernel) rfl (gS (svX rfl rfl h12)) ?_
        refine DrawG.pick (n := 10) (i := 9) (by decide +kernel) rfl (gS (v := (eB false)) (sv (d_pickF rfl h12 rfl))) ?_
        refine DrawG.pick (n := 9) (i := 10) (by decide +kernel) rfl (gS (v := (eB false)) (sv (d_move rfl))) ?_
        refine DrawG.pick (n := 8) (i := 11) (by decide +kernel) rfl (gS (svX rfl rfl rfl)) ?_
        refine DrawG.pick (n := 7) (i := 12) (by decide +kernel) rfl (gS (svX rfl rfl rfl)) ?_
        refine DrawG.pick (n := 6) (i := 13) (by decide +kernel) rfl (gS (svX rfl rfl rfl)) ?_
        refine DrawG.pick (n := 5) (i := 14) (by decide +kernel) rfl (gS (svX rfl rfl rfl)) ?_
        refine DrawG.pick (n := 4) (i := 15) (by decide +kernel) rfl (gS (svX rfl rfl rfl)) ?_
        refine DrawG.pick (n := 3) (i := 16) (by decide +kernel) rfl (gS (svX rfl rfl rfl)) ?_
        refine DrawG.pick (n := 2) (i := 17) (by decide +kernel) rfl (gS (svX rfl rfl rfl)) ?_
        refine DrawG.pick (n := 1) (i := 18) (by decide +kernel) rfl (gS (v := (eB false)) (sv (d_pickF rfl rfl rfl))) ?_
        refine DrawG.pick (n := 0) (i := 19) (by decide +kernel) rfl (gS (v := (eB false)) (sv (d_assign rfl))) ?_
        refine DrawG.nil (by decide +kernel) ?_
        refine Ex.then_mk ?_
        exact hG1 _ _ _ _ (Ghost.rn [] rfl rfl (FLe.same rfl FLe.nil) HLe.nil rfl) (J1 false hr)
end Go.Proofs.Ytidkaiebgjbekaa
