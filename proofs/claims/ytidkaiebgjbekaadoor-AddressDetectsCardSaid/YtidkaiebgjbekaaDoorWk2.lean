/- Walks printed by a program of ours (gen.py): each Go function of the list does what its shallow function says. -/
import Derived.Test.YtidkaiebgjbekaaDoorWk1
set_option linter.unusedVariables false
set_option linter.unusedSimpArgs false
namespace Go.Proofs.YtidkaiebgjbekaaDoor
open Go Go.Vm
set_option maxRecDepth 20000 in
set_option maxHeartbeats 1000000 in
theorem address_small_ok (N : Nat) (vs : ByteArray) (r : ByteArray × Bool) (hr : address_small N vs = some r) :
    Vm.Fn Tryd.prog 25 [] [(eS vs)] (.tup [(eS r.1), (eB r.2)]) [] := by
  refine fn_ab Tryd.func25 rfl (by kernel_rfl) Tryd.ntmps25 (Nat.le_of_ble_eq_true rfl) rfl (fr := [(0, (eS vs))]) rfl ?_
  unfold address_small at hr
  refine AB.seq ?_
  refine AB.rw ?_
  refine wS (v := (eS .empty)) (sv (d_assign rfl)) ?_
  refine wS (v := (eB false)) (sv (d_assign rfl)) ?_
  refine OpsW.nil ?_
  refine Ex.then_mk ?_
  refine AB.seq ?_
  replace hr := bnd hr; obtain ⟨x10, h_1, hr⟩ := hr
  refine AB.rw ?_
  refine wS (v := (eS vs)) (sv (d_move rfl)) ?_
  refine wStr (h' := [some ⟨5, x10.map (eI .u8)⟩]) rfl ti9 ti22 ti5 h_1 rfl rfl ?_
  refine wS (v := (.sl 0 0 x10.length 1 false)) (sv (d_assign rfl)) ?_
  refine OpsW.nil ?_
  refine Ex.then_mk ?_
  refine AB.seq ?_
  refine AB.rw ?_
  refine wS (v := (eB false)) (sv (d_assign rfl)) ?_
  refine wS (v := (eB false)) (sv (d_assign rfl)) ?_
  refine OpsW.nil ?_
  refine Ex.then_mk ?_
  refine AB.seq_g fun K1 hK1 hG1 => ?_
  have J1 : ∀ (lower : Bool) (upper : Bool) (l0 : List Int), address_small_J1 N lower upper l0 = some r → K1 (mkF 45 [(4, (.sl 0 0 l0.length 1 false)), (5, (eB lower)), (6, (eB upper))]) [some ⟨5, l0.map (eI .u8)⟩] := by
    intro lower upper l0 hr
    unfold address_small_J1 at hr
    refine hK1 _ _ ?_
    refine AB.seq_g fun K2 hK2 hG2 => ?_
    have J2 : ∀ (x3 : Bool), address_small_J2 N l0 x3 = some r → K2 (mkF 45 [(2, (eS (strOf l0))), (3, (eB x3))]) [] := by
      intro x3 hr
      unfold address_small_J2 at hr
      refine hK2 _ _ ?_
      refine AB.ret ?_
      obtain rfl := Option.some.inj hr
      exact done_ret (r1 := (.tup [(eS (strOf l0)), (eB x3)])) (res2 Tryd.results25 (rvT rfl) (rvT rfl)) (Ghost.rn [] rfl rfl (FLe.same rfl FLe.nil) HLe.nil rfl)
    rcases Bool.eq_false_or_eq_true lower with h2 | h2
    · replace hr := iteT hr h2
      refine AB.rw ?_
      refine wS (v := (.sl 0 0 l0.length 1 false)) (sv (d_move rfl)) ?_
      refine wS (v := (eS (strOf l0))) (sv (d_conv rfl (convB ti22 ti9 ti5 (srcS rfl rfl)))) ?_
      refine wS (v := (eB lower)) (sv (d_move rfl)) ?_
      refine wS (v := (eB lower)) (sv (d_move rfl)) ?_
      refine wS (v := (eB upper)) (svG rfl rfl h2 (d_move rfl)) ?_
      refine wS (v := (eB upper)) (sv (d_pickT rfl h2 rfl)) ?_
      refine wS (v := (eS (strOf l0))) (sv (d_assign rfl)) ?_
      refine wS (v := (eB upper)) (sv (d_assign rfl)) ?_
      refine OpsW.nil ?_
      refine Ex.then_mk ?_
      exact hG2 _ _ _ _ (Ghost.rn [] rfl rfl (FLe.same rfl (FLe.same rfl FLe.nil)) HLe.nil rfl) (J2 upper hr)
    · replace hr := iteF hr h2
      refine AB.rw ?_
      refine wS (v := (.sl 0 0 l0.length 1 false)) (sv (d_move rfl)) ?_
      refine wS (v := (eS (strOf l0))) (sv (d_conv rfl (convB ti22 ti9 ti5 (srcS rfl rfl)))) ?_
      refine wS (v := (eB lower)) (sv (d_move rfl)) ?_
      refine wS (v := (eB lower)) (sv (d_move rfl)) ?_
      refine wS (svX rfl rfl h2) ?_
      refine wS (v := (eB false)) (sv (d_pickF rfl h2 rfl)) ?_
      refine wS (v := (eS (strOf l0))) (sv (d_assign rfl)) ?_
      refine wS (v := (eB false)) (sv (d_assign rfl)) ?_
      refine OpsW.nil ?_
      refine Ex.then_mk ?_
      exact hG2 _ _ _ _ (Ghost.rn [] rfl rfl (FLe.same rfl (FLe.same rfl FLe.nil)) HLe.nil rfl) (J2 false hr)
  refine AB.seq ?_
  refine AB.rw ?_
  refine wS (v := (.sl 0 0 x10.length 1 false)) (sv (d_move rfl)) ?_
  refine wS (v := (eI .i64 (x10.length : Int))) (sv (d_len rfl (lenS ti22))) ?_
  refine wS (v := (eI .i64 0)) (sv (d_move rfl)) ?_
  refine OpsW.nil ?_
  refine Ex.then_mk ?_
  replace hr := bnd hr; obtain ⟨res3, hL3, hr⟩ := hr
  refine AB.block ?_
  refine AB.loopN (fun m s h => ∃ (lower_1 : Bool) (upper_1 : Bool) (x13 : Int) (l0_1 : List Int), address_small_L3 N x10 m lower_1 upper_1 x13 l0_1 = some res3 ∧ Ghost 0 s h (mkF 45 [(4, (.sl 0 0 l0_1.length 1 false)), (5, (eB lower_1)), (6, (eB upper_1)), (11, (.sl 0 0 l0_1.length 1 false)), (12, (eI .i64 (x10.length : Int))), (13, (eI .i64 x13))]) [some ⟨5, l0_1.map (eI .u8)⟩]) (n := N) ⟨false, false, 0, x10, hL3, (Ghost.rn [0] rfl rfl (FLe.same rfl (FLe.same rfl (FLe.same rfl (FLe.same rfl (FLe.same rfl (FLe.same rfl FLe.nil)))))) (HLe.live rfl (les_map (fun _ => rfl) _) (all_map (fun _ => rfl) _) HLe.nil) rfl)⟩ (by rintro s h ⟨_, _, _, _, h0, _⟩; simp [address_small_L3] at h0) ?_
  rintro m3 s h ⟨lower_1, upper_1, x13, l0_1, hr3, hg⟩
  refine AB.ghost hg ?_
  clear hg hL3
  rw [address_small_L3] at hr3
  refine AB.seq ?_
  refine AB.rw ?_
  refine wS (v := (eB (decide (x13 < (x10.length : Int))))) (sv (d_bin rfl rfl (bin_lss ..))) ?_
  refine OpsW.nil ?_
  refine Ex.then_mk ?_
  refine AB.seq ?_
  refine AB.cnd rfl (fun h3 => ?_) (fun h3 => ?_)
  · replace hr3 := iteT hr3 h3
    refine AB.skip ?_
    refine Ex.then_mk ?_
    refine AB.seq_g fun K4 hK4 hG4 => ?_
    have J4 : ∀ (lower_2 : Bool) (upper_2 : Bool) (l0_2 : List Int), address_small_J4 N x10 x13 (address_small_L3 N x10 m3) lower_2 upper_2 l0_2 = some res3 → K4 (mkF 45 [(4, (.sl 0 0 l0_2.length 1 false)), (5, (eB lower_2)), (6, (eB upper_2)), (11, (.sl 0 0 l0_2.length 1 false)), (12, (eI .i64 (x10.length : Int))), (13, (eI .i64 x13))]) [some ⟨5, l0_2.map (eI .u8)⟩] := by
      intro lower_2 upper_2 l0_2 hr3
      unfold address_small_J4 at hr3
      refine hK4 _ _ ?_
      refine AB.rw ?_
      refine wS (v := (eI .i64 (IntKind.i64.wrap (x13 + 1)))) (sv (d_bin rfl rfl (bin_add ..))) ?_
      refine wS (v := (eI .i64 (IntKind.i64.wrap (x13 + 1)))) (sv (d_move rfl)) ?_
      refine OpsW.nil ?_
      refine Ex.then_mk ?_
      exact ⟨lower_2, upper_2, IntKind.i64.wrap (x13 + 1), l0_2, hr3, (Ghost.rn [0] rfl rfl (FLe.same rfl (FLe.same rfl (FLe.same rfl (FLe.same rfl (FLe.same rfl (FLe.same rfl FLe.nil)))))) (HLe.live rfl (les_map (fun _ => rfl) _) (all_map (fun _ => rfl) _) HLe.nil) rfl)⟩
    refine AB.block ?_
    refine AB.seq ?_
    replace hr3 := bnd hr3; obtain ⟨x16, h_4, hr3⟩ := hr3
    refine AB.rw ?_
    refine wS (v := (eI .i64 x13)) (sv (d_move rfl)) ?_
    refine wS (v := (.ptr 0 (Int.toNat x13))) (sv (d_ia rfl rfl (iaS rfl ti22 ti5 rfl h_4))) ?_
    refine wS (v := (eI .u8 x16)) (sv (d_load rfl (ldX (E := (eI .u8)) (y := x16) ti5 rfl rfl h_4))) ?_
    refine wS (v := (eI .i64 x13)) (sv (d_assign rfl)) ?_
    refine wS (v := (eI .u8 x16)) (sv (d_assign rfl)) ?_
    refine OpsW.nil ?_
    refine Ex.then_mk ?_
    refine AB.block ?_
    refine AB.seq_g fun K5 hK5 hG5 => ?_
    have J5 : ∀ (x18 : Bool), address_small_J5 N x10 lower_1 upper_1 x13 l0_1 x16 (address_small_L3 N x10 m3) x18 = some res3 → K5 (mkF 45 [(4, (.sl 0 0 l0_1.length 1 false)), (5, (eB lower_1)), (6, (eB upper_1)), (7, (eI .i64 x13)), (8, (eI .u8 x16)), (11, (.sl 0 0 l0_1.length 1 false)), (12, (eI .i64 (x10.length : Int))), (13, (eI .i64 x13)), (18, (eB x18))]) [some ⟨5, l0_1.map (eI .u8)⟩] := by
      intro x18 hr3
      unfold address_small_J5 at hr3
      refine hK5 _ _ ?_
      refine AB.cnd rfl (fun h5 => ?_) (fun h5 => ?_)
      · replace hr3 := iteT hr3 h5
        refine AB.rw ?_
        refine wS (v := (eB true)) (sv (d_assign rfl)) ?_
        refine OpsW.nil ?_
        refine Ex.inBlock_mk ?_
        refine Ex.inBlock_mk ?_
        refine Ex.then_mk ?_
        exact hG4 _ _ _ _ (Ghost.rn [0] rfl rfl (FLe.same rfl (FLe.same rfl (FLe.same rfl (FLe.same rfl (FLe.same rfl (FLe.same rfl FLe.nil)))))) (HLe.live rfl (les_map (fun _ => rfl) _) (all_map (fun _ => rfl) _) HLe.nil) rfl) (J4 true upper_1 l0_1 hr3)
      · replace hr3 := iteF hr3 h5
        refine AB.seq_g fun K6 hK6 hG6 => ?_
        have J6 : ∀ (x25 : Bool), address_small_J6 N x10 lower_1 upper_1 x13 l0_1 x16 (address_small_L3 N x10 m3) x25 = some res3 → K6 (mkF 45 [(4, (.sl 0 0 l0_1.length 1 false)), (5, (eB lower_1)), (6, (eB upper_1)), (7, (eI .i64 x13)), (8, (eI .u8 x16)), (11, (.sl 0 0 l0_1.length 1 false)), (12, (eI .i64 (x10.length : Int))), (13, (eI .i64 x13)), (25, (eB x25))]) [some ⟨5, l0_1.map (eI .u8)⟩] := by
          intro x25 hr3
          unfold address_small_J6 at hr3
          refine hK6 _ _ ?_
          refine AB.cnd rfl (fun h6 => ?_) (fun h6 => ?_)
          · replace hr3 := iteT hr3 h6
            refine AB.seq ?_
            refine AB.rw ?_
            refine wS (v := (eB true)) (sv (d_assign rfl)) ?_
            refine OpsW.nil ?_
            refine Ex.then_mk ?_
            refine AB.rw ?_
            refine wS (v := (.sl 0 0 l0_1.length 1 false)) (sv (d_move rfl)) ?_
            refine wS (v := (eI .i64 x13)) (sv (d_move rfl)) ?_
            refine wS (v := (eI .u8 x16)) (sv (d_move rfl)) ?_
            refine wS (v := (eI .u8 (IntKind.u8.wrap (x16 - 65)))) (sv (d_bin rfl rfl (bin_sub ..))) ?_
            refine wS (v := (eI .u8 (IntKind.u8.wrap ((IntKind.u8.wrap (x16 - 65)) + 97)))) (sv (d_bin rfl rfl (bin_add ..))) ?_
            refine wS (v := (.ptr 0 (Int.toNat x13))) (sv (d_ia rfl rfl (iaS rfl ti22 ti5 rfl h_4))) ?_
            refine wN (h' := [some ⟨5, (l0_1.set (Int.toNat x13) (IntKind.u8.wrap ((IntKind.u8.wrap (x16 - 65)) + 97))).map (eI .u8)⟩]) (sv (d_store rfl rfl (stXe (E := (eI .u8)) (y := IntKind.u8.wrap ((IntKind.u8.wrap (x16 - 65)) + 97)) ti5 rfl rfl h_4 rfl rfl rfl))) ?_
            refine OpsW.nil ?_
            refine Ex.inBlock_mk ?_
            refine Ex.inBlock_mk ?_
            refine Ex.then_mk ?_
            exact hG4 _ _ _ _ (Ghost.rn [0] rfl rfl (FLe.le rfl (by first | exact V.le_refl _ _ | (simp only [len_set, len_cpy]; exact V.le_refl _ _)) (FLe.same rfl (FLe.same rfl (FLe.le rfl (by first | exact V.le_refl _ _ | (simp only [len_set, len_cpy]; exact V.le_refl _ _)) (FLe.same rfl (FLe.same rfl FLe.nil)))))) (HLe.live rfl (les_map (fun _ => rfl) _) (all_map (fun _ => rfl) _) HLe.nil) rfl) (J4 lower_1 true (l0_1.set (Int.toNat x13) (IntKind.u8.wrap ((IntKind.u8.wrap (x16 - 65)) + 97))) hr3)
          · replace hr3 := iteF hr3 h6
            refine AB.skip ?_
            refine Ex.inBlock_mk ?_
            refine Ex.inBlock_mk ?_
            refine Ex.then_mk ?_
            exact hG4 _ _ _ _ (Ghost.rn [0] rfl rfl (FLe.same rfl (FLe.same rfl (FLe.same rfl (FLe.same rfl (FLe.same rfl (FLe.same rfl FLe.nil)))))) (HLe.live rfl (les_map (fun _ => rfl) _) (all_map (fun _ => rfl) _) HLe.nil) rfl) (J4 lower_1 upper_1 l0_1 hr3)
        rcases Bool.eq_false_or_eq_true (decide (65 ≤ x16)) with h7 | h7
        · replace hr3 := iteT hr3 h7
          refine AB.rw ?_
          refine wS (v := (eI .u8 x16)) (sv (d_move rfl)) ?_
          refine wS (v := (eB (decide (65 ≤ x16)))) (sv (d_bin rfl rfl (bin_geq ..))) ?_
          refine wS (v := (eB (decide (65 ≤ x16)))) (sv (d_move rfl)) ?_
          refine wS (v := (eI .u8 x16)) (svG rfl rfl h7 (d_move rfl)) ?_
          refine wS (v := (eB (decide (x16 ≤ 90)))) (svG rfl rfl h7 (d_bin rfl rfl (bin_leq ..))) ?_
          refine wS (v := (eB (decide (x16 ≤ 90)))) (sv (d_pickT rfl h7 rfl)) ?_
          refine wS (v := (eB (decide (x16 ≤ 90)))) (sv (d_assign rfl)) ?_
          refine OpsW.nil ?_
          refine Ex.then_mk ?_
          exact hG6 _ _ _ _ (Ghost.rn [0] rfl rfl (FLe.same rfl (FLe.same rfl (FLe.same rfl (FLe.same rfl (FLe.same rfl (FLe.same rfl (FLe.same rfl (FLe.same rfl (FLe.same rfl FLe.nil))))))))) (HLe.live rfl (les_map (fun _ => rfl) _) (all_map (fun _ => rfl) _) HLe.nil) rfl) (J6 (decide (x16 ≤ 90)) hr3)
        · replace hr3 := iteF hr3 h7
          refine AB.rw ?_
          refine wS (v := (eI .u8 x16)) (sv (d_move rfl)) ?_
          refine wS (v := (eB (decide (65 ≤ x16)))) (sv (d_bin rfl rfl (bin_geq ..))) ?_
          refine wS (v := (eB (decide (65 ≤ x16)))) (sv (d_move rfl)) ?_
          refine wS (svX rfl rfl h7) ?_
          refine wS (svX rfl rfl h7) ?_
          refine wS (v := (eB false)) (sv (d_pickF rfl h7 rfl)) ?_
          refine wS (v := (eB false)) (sv (d_assign rfl)) ?_
          refine OpsW.nil ?_
          refine Ex.then_mk ?_
          exact hG6 _ _ _ _ (Ghost.rn [0] rfl rfl (FLe.same rfl (FLe.same rfl (FLe.same rfl (FLe.same rfl (FLe.same rfl (FLe.same rfl (FLe.same rfl (FLe.same rfl (FLe.same rfl FLe.nil))))))))) (HLe.live rfl (les_map (fun _ => rfl) _) (all_map (fun _ => rfl) _) HLe.nil) rfl) (J6 false hr3)
    rcases Bool.eq_false_or_eq_true (decide (97 ≤ x16)) with h8 | h8
    · replace hr3 := iteT hr3 h8
      refine AB.rw ?_
      refine wS (v := (eI .u8 x16)) (sv (d_move rfl)) ?_
      refine wS (v := (eB (decide (97 ≤ x16)))) (sv (d_bin rfl rfl (bin_geq ..))) ?_
      refine wS (v := (eB (decide (97 ≤ x16)))) (sv (d_move rfl)) ?_
      refine wS (v := (eI .u8 x16)) (svG rfl rfl h8 (d_move rfl)) ?_
      refine wS (v := (eB (decide (x16 ≤ 122)))) (svG rfl rfl h8 (d_bin rfl rfl (bin_leq ..))) ?_
      refine wS (v := (eB (decide (x16 ≤ 122)))) (sv (d_pickT rfl h8 rfl)) ?_
      refine wS (v := (eB (decide (x16 ≤ 122)))) (sv (d_assign rfl)) ?_
      refine OpsW.nil ?_
      refine Ex.then_mk ?_
      exact hG5 _ _ _ _ (Ghost.rn [0] rfl rfl (FLe.same rfl (FLe.same rfl (FLe.same rfl (FLe.same rfl (FLe.same rfl (FLe.same rfl (FLe.same rfl (FLe.same rfl (FLe.same rfl FLe.nil))))))))) (HLe.live rfl (les_map (fun _ => rfl) _) (all_map (fun _ => rfl) _) HLe.nil) rfl) (J5 (decide (x16 ≤ 122)) hr3)
    · replace hr3 := iteF hr3 h8
      refine AB.rw ?_
      refine wS (v := (eI .u8 x16)) (sv (d_move rfl)) ?_
      refine wS (v := (eB (decide (97 ≤ x16)))) (sv (d_bin rfl rfl (bin_geq ..))) ?_
      refine wS (v := (eB (decide (97 ≤ x16)))) (sv (d_move rfl)) ?_
      refine wS (svX rfl rfl h8) ?_
      refine wS (svX rfl rfl h8) ?_
      refine wS (v := (eB false)) (sv (d_pickF rfl h8 rfl)) ?_
      refine wS (v := (eB false)) (sv (d_assign rfl)) ?_
      refine OpsW.nil ?_
      refine Ex.then_mk ?_
      exact hG5 _ _ _ _ (Ghost.rn [0] rfl rfl (FLe.same rfl (FLe.same rfl (FLe.same rfl (FLe.same rfl (FLe.same rfl (FLe.same rfl (FLe.same rfl (FLe.same rfl (FLe.same rfl FLe.nil))))))))) (HLe.live rfl (les_map (fun _ => rfl) _) (all_map (fun _ => rfl) _) HLe.nil) rfl) (J5 false hr3)
  · replace hr3 := iteF hr3 h3
    refine AB.exit ?_
    refine Ex.then_exit_mk ?_
    refine Ex.then_exit_mk ?_
    refine Ex.inBlock_same_mk ?_
    obtain rfl := Option.some.inj hr3
    refine Ex.then_mk ?_
    exact hG1 _ _ _ _ (Ghost.rn [0] rfl rfl (FLe.same rfl (FLe.same rfl (FLe.same rfl FLe.nil))) (HLe.live rfl (les_map (fun _ => rfl) _) (all_map (fun _ => rfl) _) HLe.nil) rfl) (J1 lower_1 upper_1 l0_1 hr)
set_option maxRecDepth 20000 in
set_option maxHeartbeats 1000000 in
theorem internal_stringslite_HasPrefix_ok (N : Nat) (vs : ByteArray) (vprefix : ByteArray) (r : Bool) (hr : internal_stringslite_HasPrefix N vs vprefix = some r) :
    Vm.Fn Tryd.prog 33 [] [(eS vs), (eS vprefix)] (eB r) [] := by
  refine fn_ab Tryd.func33 rfl (by kernel_rfl) Tryd.ntmps33 (Nat.le_of_ble_eq_true rfl) rfl (fr := [(0, (eS vs)), (1, (eS vprefix))]) rfl ?_
  unfold internal_stringslite_HasPrefix at hr
  refine AB.seq ?_
  refine AB.rw ?_
  refine wS (v := (eB false)) (sv (d_assign rfl)) ?_
  refine OpsW.nil ?_
  refine Ex.then_mk ?_
  refine AB.seq_g fun K1 hK1 hG1 => ?_
  have J1 : ∀ (x4 : Bool), internal_stringslite_HasPrefix_J1 N x4 = some r → K1 (mkF 18 [(4, (eB x4))]) [] := by
    intro x4 hr
    unfold internal_stringslite_HasPrefix_J1 at hr
    refine hK1 _ _ ?_
    refine AB.ret ?_
    obtain rfl := Option.some.inj hr
    exact done_ret (r1 := (eB x4)) (res1 Tryd.results33 (rvT rfl)) (Ghost.rn [] rfl rfl (FLe.same rfl FLe.nil) HLe.nil rfl)
  rcases Bool.eq_false_or_eq_true (decide ((vprefix.size : Int) ≤ (vs.size : Int))) with h1 | h1
  · replace hr := iteT hr h1
    replace hr := bnd hr; obtain ⟨x14, h_2, hr⟩ := hr
    refine AB.rw ?_
    refine wS (v := (eS vs)) (sv (d_move rfl)) ?_
    refine wS (v := (eI .i64 (vs.size : Int))) (sv (d_len rfl (lenT ti9))) ?_
    refine wS (v := (eS vprefix)) (sv (d_move rfl)) ?_
    refine wS (v := (eI .i64 (vprefix.size : Int))) (sv (d_len rfl (lenT ti9))) ?_
    refine wS (v := (eB (decide ((vprefix.size : Int) ≤ (vs.size : Int))))) (sv (d_bin rfl rfl (bin_geq ..))) ?_
    refine wS (v := (eB (decide ((vprefix.size : Int) ≤ (vs.size : Int))))) (sv (d_move rfl)) ?_
    refine wS (v := (eS vs)) (svG rfl rfl h1 (d_move rfl)) ?_
    refine wS (v := (eS vprefix)) (svG rfl rfl h1 (d_move rfl)) ?_
    refine wS (v := (eI .i64 (vprefix.size : Int))) (svG rfl rfl h1 (d_len rfl (lenT ti9))) ?_
    refine wS (v := (eS x14)) (svG rfl rfl h1 (d_slice rfl rfl rfl (slT ti9 rfl rfl h_2))) ?_
    refine wS (v := (eS vprefix)) (svG rfl rfl h1 (d_move rfl)) ?_
    refine wS (v := (eB (x14.toList == vprefix.toList))) (svG rfl rfl h1 (d_bin rfl rfl (bin_eqlS ..))) ?_
    refine wS (v := (eB (x14.toList == vprefix.toList))) (sv (d_pickT rfl h1 rfl)) ?_
    refine wS (v := (eB (x14.toList == vprefix.toList))) (sv (d_assign rfl)) ?_
    refine OpsW.nil ?_
    refine Ex.then_mk ?_
    exact hG1 _ _ _ _ (Ghost.rn [] rfl rfl (FLe.same rfl FLe.nil) HLe.nil rfl) (J1 (x14.toList == vprefix.toList) hr)
  · replace hr := iteF hr h1
    refine AB.rw ?_
    refine wS (v := (eS vs)) (sv (d_move rfl)) ?_
    refine wS (v := (eI .i64 (vs.size : Int))) (sv (d_len rfl (lenT ti9))) ?_
    refine wS (v := (eS vprefix)) (sv (d_move rfl)) ?_
    refine wS (v := (eI .i64 (vprefix.size : Int))) (sv (d_len rfl (lenT ti9))) ?_
    refine wS (v := (eB (decide ((vprefix.size : Int) ≤ (vs.size : Int))))) (sv (d_bin rfl rfl (bin_geq ..))) ?_
    refine wS (v := (eB (decide ((vprefix.size : Int) ≤ (vs.size : Int))))) (sv (d_move rfl)) ?_
    refine wS (svX rfl rfl h1) ?_
    refine wS (svX rfl rfl h1) ?_
    refine wS (svX rfl rfl h1) ?_
    refine wS (svX rfl rfl h1) ?_
    refine wS (svX rfl rfl h1) ?_
    refine wS (svX rfl rfl h1) ?_
    refine wS (v := (eB false)) (sv (d_pickF rfl h1 rfl)) ?_
    refine wS (v := (eB false)) (sv (d_assign rfl)) ?_
    refine OpsW.nil ?_
    refine Ex.then_mk ?_
    exact hG1 _ _ _ _ (Ghost.rn [] rfl rfl (FLe.same rfl FLe.nil) HLe.nil rfl) (J1 false hr)
set_option maxRecDepth 20000 in
set_option maxHeartbeats 1000000 in
theorem internal_stringslite_CutPrefix_ok (N : Nat) (vs : ByteArray) (vprefix : ByteArray) (r : ByteArray × Bool) (hr : internal_stringslite_CutPrefix N vs vprefix = some r) :
    Vm.Fn Tryd.prog 31 [] [(eS vs), (eS vprefix)] (.tup [(eS r.1), (eB r.2)]) [] := by
  refine fn_ab Tryd.func31 rfl (by kernel_rfl) Tryd.ntmps31 (Nat.le_of_ble_eq_true rfl) rfl (fr := [(0, (eS vs)), (1, (eS vprefix))]) rfl ?_
  unfold internal_stringslite_CutPrefix at hr
  refine AB.seq ?_
  refine AB.rw ?_
  refine wS (v := (eS .empty)) (sv (d_assign rfl)) ?_
  refine wS (v := (eB false)) (sv (d_assign rfl)) ?_
  refine OpsW.nil ?_
  refine Ex.then_mk ?_
  refine AB.seq ?_
  refine AB.seq ?_
  replace hr := bnd hr; obtain ⟨x8, h_1, hr⟩ := hr
  refine AB.rw ?_
  refine wS (v := (eS vs)) (sv (d_move rfl)) ?_
  refine wS (v := (eS vprefix)) (sv (d_move rfl)) ?_
  refine wC (v := (eB x8)) (h' := []) rfl (Vm.Fn.pure (internal_stringslite_HasPrefix_ok N vs vprefix x8 h_1) rfl rfl) ?_
  refine wS (v := (eB (!x8))) (sv (d_un rfl (un_not _ _))) ?_
  refine OpsW.nil ?_
  refine Ex.then_mk ?_
  refine AB.cnd rfl (fun h2 => ?_) (fun h2 => ?_)
  · replace hr := iteT hr h2
    refine AB.seq ?_
    refine AB.rw ?_
    refine wS (v := (eS vs)) (sv (d_move rfl)) ?_
    refine wS (v := (eS vs)) (sv (d_assign rfl)) ?_
    refine wS (v := (eB false)) (sv (d_assign rfl)) ?_
    refine OpsW.nil ?_
    refine Ex.then_mk ?_
    refine AB.ret ?_
    refine Ex.then_ret_mk ?_
    obtain rfl := Option.some.inj hr
    exact done_ret (r1 := (.tup [(eS vs), (eB false)])) (res2 Tryd.results31 (rvT rfl) (rvT rfl)) (Ghost.rn [] rfl rfl (FLe.same rfl FLe.nil) HLe.nil rfl)
  · replace hr := iteF hr h2
    refine AB.skip ?_
    refine Ex.then_mk ?_
    refine AB.seq ?_
    replace hr := bnd hr; obtain ⟨x14, h_3, hr⟩ := hr
    refine AB.rw ?_
    refine wS (v := (eS vs)) (sv (d_move rfl)) ?_
    refine wS (v := (eS vprefix)) (sv (d_move rfl)) ?_
    refine wS (v := (eI .i64 (vprefix.size : Int))) (sv (d_len rfl (lenT ti9))) ?_
    refine wS (v := (eS x14)) (sv (d_slice rfl rfl rfl (slT ti9 rfl rfl h_3))) ?_
    refine wS (v := (eS x14)) (sv (d_assign rfl)) ?_
    refine wS (v := (eB true)) (sv (d_assign rfl)) ?_
    refine OpsW.nil ?_
    refine Ex.then_mk ?_
    refine AB.ret ?_
    obtain rfl := Option.some.inj hr
    exact done_ret (r1 := (.tup [(eS x14), (eB true)])) (res2 Tryd.results31 (rvT rfl) (rvT rfl)) (Ghost.rn [] rfl rfl (FLe.same rfl FLe.nil) HLe.nil rfl)
set_option maxRecDepth 20000 in
set_option maxHeartbeats 1000000 in
theorem strings_CutPrefix_ok (N : Nat) (vs : ByteArray) (vprefix : ByteArray) (r : ByteArray × Bool) (hr : strings_CutPrefix N vs vprefix = some r) :
    Vm.Fn Tryd.prog 26 [] [(eS vs), (eS vprefix)] (.tup [(eS r.1), (eB r.2)]) [] := by
  refine fn_ab Tryd.func26 rfl (by kernel_rfl) Tryd.ntmps26 (Nat.le_of_ble_eq_true rfl) rfl (fr := [(0, (eS vs)), (1, (eS vprefix))]) rfl ?_
  unfold strings_CutPrefix at hr
  refine AB.seq ?_
  refine AB.rw ?_
  refine wS (v := (eS .empty)) (sv (d_assign rfl)) ?_
  refine wS (v := (eB false)) (sv (d_assign rfl)) ?_
  refine OpsW.nil ?_
  refine Ex.then_mk ?_
  refine AB.seq ?_
  replace hr := bnd hr; obtain ⟨x8, h_1, hr⟩ := hr
  refine AB.rw ?_
  refine wS (v := (eS vs)) (sv (d_move rfl)) ?_
  refine wS (v := (eS vprefix)) (sv (d_move rfl)) ?_
  refine wC (v := (.tup [(eS x8.1), (eB x8.2)])) (h' := []) rfl (Vm.Fn.pure (internal_stringslite_CutPrefix_ok N vs vprefix x8 h_1) rfl rfl) ?_
  refine wS (v := (eS x8.1)) (sv (d_ext rfl rfl)) ?_
  refine wS (v := (eB x8.2)) (sv (d_ext rfl rfl)) ?_
  refine wS (v := (eS x8.1)) (sv (d_assign rfl)) ?_
  refine wS (v := (eB x8.2)) (sv (d_assign rfl)) ?_
  refine OpsW.nil ?_
  refine Ex.then_mk ?_
  refine AB.ret ?_
  obtain rfl := Option.some.inj hr
  exact done_ret (r1 := (.tup [(eS x8.1), (eB x8.2)])) (res2 Tryd.results26 (rvT rfl) (rvT rfl)) (Ghost.rn [] rfl rfl (FLe.same rfl FLe.nil) HLe.nil rfl)
theorem bytealg_IndexByteString_ok (N : Nat) (s : ByteArray) (c : Int) (r : Int) (hr : bytealg_IndexByteString N s c = some r) : Vm.Fn Tryd.prog 34 [] [(eS s), (eI .u8 c)] (eI .i64 r) [] := by
  obtain rfl := Option.some.inj hr
  exact fn_ixb Tryd.func34 (by kernel_rfl) (by kernel_rfl) (by kernel_rfl) (by kernel_rfl) s c
set_option maxRecDepth 20000 in
set_option maxHeartbeats 1000000 in
theorem internal_stringslite_IndexByte_ok (N : Nat) (vs : ByteArray) (c : Int) (r : Int) (hr : internal_stringslite_IndexByte N vs c = some r) :
    Vm.Fn Tryd.prog 32 [] [(eS vs), (eI .u8 c)] (eI .i64 r) [] := by
  refine fn_ab Tryd.func32 rfl (by kernel_rfl) Tryd.ntmps32 (Nat.le_of_ble_eq_true rfl) rfl (fr := [(0, (eS vs)), (1, (eI .u8 c))]) rfl ?_
  unfold internal_stringslite_IndexByte at hr
  refine AB.seq ?_
  refine AB.rw ?_
  refine wS (v := (eI .i64 0)) (sv (d_assign rfl)) ?_
  refine OpsW.nil ?_
  refine Ex.then_mk ?_
  refine AB.seq ?_
  replace hr := bnd hr; obtain ⟨x7, h_1, hr⟩ := hr
  refine AB.rw ?_
  refine wS (v := (eS vs)) (sv (d_move rfl)) ?_
  refine wS (v := (eI .u8 c)) (sv (d_move rfl)) ?_
  refine wC (v := (eI .i64 x7)) (h' := []) rfl (Vm.Fn.pure (bytealg_IndexByteString_ok N vs c x7 h_1) rfl rfl) ?_
  refine wS (v := (eI .i64 x7)) (sv (d_assign rfl)) ?_
  refine OpsW.nil ?_
  refine Ex.then_mk ?_
  refine AB.ret ?_
  obtain rfl := Option.some.inj hr
  exact done_ret (r1 := (eI .i64 x7)) (res1 Tryd.results32 (rvT rfl)) (Ghost.rn [] rfl rfl (FLe.same rfl FLe.nil) HLe.nil rfl)
set_option maxRecDepth 20000 in
set_option maxHeartbeats 1000000 in
theorem strings_IndexByte_ok (N : Nat) (vs : ByteArray) (c : Int) (r : Int) (hr : strings_IndexByte N vs c = some r) :
    Vm.Fn Tryd.prog 27 [] [(eS vs), (eI .u8 c)] (eI .i64 r) [] := by
  refine fn_ab Tryd.func27 rfl (by kernel_rfl) Tryd.ntmps27 (Nat.le_of_ble_eq_true rfl) rfl (fr := [(0, (eS vs)), (1, (eI .u8 c))]) rfl ?_
  unfold strings_IndexByte at hr
  refine AB.seq ?_
  refine AB.rw ?_
  refine wS (v := (eI .i64 0)) (sv (d_assign rfl)) ?_
  refine OpsW.nil ?_
  refine Ex.then_mk ?_
  refine AB.seq ?_
  replace hr := bnd hr; obtain ⟨x7, h_1, hr⟩ := hr
  refine AB.rw ?_
  refine wS (v := (eS vs)) (sv (d_move rfl)) ?_
  refine wS (v := (eI .u8 c)) (sv (d_move rfl)) ?_
  refine wC (v := (eI .i64 x7)) (h' := []) rfl (Vm.Fn.pure (internal_stringslite_IndexByte_ok N vs c x7 h_1) rfl rfl) ?_
  refine wS (v := (eI .i64 x7)) (sv (d_assign rfl)) ?_
  refine OpsW.nil ?_
  refine Ex.then_mk ?_
  refine AB.ret ?_
  obtain rfl := Option.some.inj hr
  exact done_ret (r1 := (eI .i64 x7)) (res1 Tryd.results27 (rvT rfl)) (Ghost.rn [] rfl rfl (FLe.same rfl FLe.nil) HLe.nil rfl)
set_option maxRecDepth 20000 in
set_option maxHeartbeats 1000000 in
theorem address_Decode_ok (N : Nat) (vprefix : ByteArray) (vs : ByteArray) (r : (List Int) × Int) (hr : address_Decode N vprefix vs = some r) :
    Vm.Fn Tryd.prog 15 [] [(eS vprefix), (eS vs)] (.tup [(.sl 0 0 r.1.length 1 false), (eI .i64 r.2)]) [some ⟨5, r.1.map (eI .u8)⟩] := by
  refine fn_ab Tryd.func15 rfl (by kernel_rfl) Tryd.ntmps15 (Nat.le_of_ble_eq_true rfl) rfl (fr := [(0, (eS vprefix)), (1, (eS vs))]) rfl ?_
  unfold address_Decode at hr
  refine AB.seq ?_
  refine AB.rw ?_
  refine wS (v := (.row (some true) 1 [])) (sv (d_assign rfl)) ?_
  refine wS (v := (eI .i64 0)) (sv (d_assign rfl)) ?_
  refine OpsW.nil ?_
  refine Ex.then_mk ?_
  refine AB.seq ?_
  refine AB.seq ?_
  replace hr := bnd hr; obtain ⟨x14, h_1, hr⟩ := hr
  refine AB.rw ?_
  refine wS (v := (eS vprefix)) (sv (d_move rfl)) ?_
  refine wC (v := (eB x14)) (h' := []) rfl (Vm.Fn.pure (address_Prefix_ok N vprefix x14 h_1) rfl rfl) ?_
  refine wS (v := (eB (!x14))) (sv (d_un rfl (un_not _ _))) ?_
  refine OpsW.nil ?_
  refine Ex.then_mk ?_
  refine AB.cnd rfl (fun h2 => ?_) (fun h2 => ?_)
  · replace hr := iteT hr h2
    refine AB.seq ?_
    refine AB.rw ?_
    refine wS (v := (.row (some true) 1 [])) (sv (d_assign rfl)) ?_
    refine wS (v := (eI .i64 270)) (sv (d_assign rfl)) ?_
    refine OpsW.nil ?_
    refine Ex.then_mk ?_
    refine AB.ret ?_
    refine Ex.then_ret_mk ?_
    obtain rfl := Option.some.inj hr
    exact done_ret (r1 := (.tup [(.row (some true) 1 []), (eI .i64 270)])) (res2 Tryd.results15 (rvT rfl) (rvT rfl)) (Ghost.trans (Ghost.virt (fr' := [(0, (.tup [(.sl 0 0 0 1 false), (eI .i64 270)]))]) (h1 := []) 5 (FLe.le rfl (V.le_tup (V.les_cons (V.le_virt rfl) (V.les_cons (V.le_refl _ _) V.les_nil))) FLe.nil) HLv.nil) (Ghost.rn [0] rfl rfl (FLe.le rfl (V.le_tup (V.les_cons (by first | exact V.le_refl _ _ | (simp only [len_set, len_cpy]; exact V.le_refl _ _)) (V.les_cons (V.le_refl _ _) V.les_nil))) FLe.nil) (HLe.live rfl V.les_nil rfl HLe.nil) rfl))
  · replace hr := iteF hr h2
    refine AB.skip ?_
    refine Ex.then_mk ?_
    refine AB.seq ?_
    refine AB.seq ?_
    refine AB.rw ?_
    refine wS (v := (eS vs)) (sv (d_move rfl)) ?_
    refine wS (v := (eI .i64 (vs.size : Int))) (sv (d_len rfl (lenT ti9))) ?_
    refine wS (v := (eS vprefix)) (sv (d_move rfl)) ?_
    refine wS (v := (eI .i64 (vprefix.size : Int))) (sv (d_len rfl (lenT ti9))) ?_
    refine wS (v := (eI .i64 (IntKind.i64.wrap ((vprefix.size : Int) + 1)))) (sv (d_bin rfl rfl (bin_add ..))) ?_
    refine wS (v := (eI .i64 (IntKind.i64.wrap ((IntKind.i64.wrap ((vprefix.size : Int) + 1)) + 166)))) (sv (d_bin rfl rfl (bin_add ..))) ?_
    refine wS (v := (eB (decide ((IntKind.i64.wrap ((IntKind.i64.wrap ((vprefix.size : Int) + 1)) + 166)) < (vs.size : Int))))) (sv (d_bin rfl rfl (bin_gtr ..))) ?_
    refine OpsW.nil ?_
    refine Ex.then_mk ?_
    refine AB.cnd rfl (fun h3 => ?_) (fun h3 => ?_)
    · replace hr := iteT hr h3
      refine AB.seq ?_
      refine AB.rw ?_
      refine wS (v := (.row (some true) 1 [])) (sv (d_assign rfl)) ?_
      refine wS (v := (eI .i64 4)) (sv (d_assign rfl)) ?_
      refine OpsW.nil ?_
      refine Ex.then_mk ?_
      refine AB.ret ?_
      refine Ex.then_ret_mk ?_
      obtain rfl := Option.some.inj hr
      exact done_ret (r1 := (.tup [(.row (some true) 1 []), (eI .i64 4)])) (res2 Tryd.results15 (rvT rfl) (rvT rfl)) (Ghost.trans (Ghost.virt (fr' := [(0, (.tup [(.sl 0 0 0 1 false), (eI .i64 4)]))]) (h1 := []) 5 (FLe.le rfl (V.le_tup (V.les_cons (V.le_virt rfl) (V.les_cons (V.le_refl _ _) V.les_nil))) FLe.nil) HLv.nil) (Ghost.rn [0] rfl rfl (FLe.le rfl (V.le_tup (V.les_cons (by first | exact V.le_refl _ _ | (simp only [len_set, len_cpy]; exact V.le_refl _ _)) (V.les_cons (V.le_refl _ _) V.les_nil))) FLe.nil) (HLe.live rfl V.les_nil rfl HLe.nil) rfl))
    · replace hr := iteF hr h3
      refine AB.skip ?_
      refine Ex.then_mk ?_
      refine AB.seq ?_
      replace hr := bnd hr; obtain ⟨x25, h_4, hr⟩ := hr
      refine AB.rw ?_
      refine wS (v := (eS vs)) (sv (d_move rfl)) ?_
      refine wC (v := (.tup [(eS x25.1), (eB x25.2)])) (h' := []) rfl (Vm.Fn.pure (address_small_ok N vs x25 h_4) rfl rfl) ?_
      refine wS (v := (.tup [(eS x25.1), (eB x25.2)])) (sv (d_move rfl)) ?_
      refine wS (v := (eS x25.1)) (sv (d_ext rfl rfl)) ?_
      refine wS (v := (eB x25.2)) (sv (d_ext rfl rfl)) ?_
      refine wS (v := (eS x25.1)) (sv (d_assign rfl)) ?_
      refine wS (v := (eB x25.2)) (sv (d_assign rfl)) ?_
      refine OpsW.nil ?_
      refine Ex.then_mk ?_
      refine AB.seq ?_
      refine AB.seq ?_
      refine AB.rw ?_
      refine wS (v := (eB x25.2)) (sv (d_move rfl)) ?_
      refine OpsW.nil ?_
      refine Ex.then_mk ?_
      refine AB.cnd rfl (fun h5 => ?_) (fun h5 => ?_)
      · replace hr := iteT hr h5
        refine AB.seq ?_
        refine AB.rw ?_
        refine wS (v := (.row (some true) 1 [])) (sv (d_assign rfl)) ?_
        refine wS (v := (eI .i64 271)) (sv (d_assign rfl)) ?_
        refine OpsW.nil ?_
        refine Ex.then_mk ?_
        refine AB.ret ?_
        refine Ex.then_ret_mk ?_
        obtain rfl := Option.some.inj hr
        exact done_ret (r1 := (.tup [(.row (some true) 1 []), (eI .i64 271)])) (res2 Tryd.results15 (rvT rfl) (rvT rfl)) (Ghost.trans (Ghost.virt (fr' := [(0, (.tup [(.sl 0 0 0 1 false), (eI .i64 271)]))]) (h1 := []) 5 (FLe.le rfl (V.le_tup (V.les_cons (V.le_virt rfl) (V.les_cons (V.le_refl _ _) V.les_nil))) FLe.nil) HLv.nil) (Ghost.rn [0] rfl rfl (FLe.le rfl (V.le_tup (V.les_cons (by first | exact V.le_refl _ _ | (simp only [len_set, len_cpy]; exact V.le_refl _ _)) (V.les_cons (V.le_refl _ _) V.les_nil))) FLe.nil) (HLe.live rfl V.les_nil rfl HLe.nil) rfl))
      · replace hr := iteF hr h5
        refine AB.skip ?_
        refine Ex.then_mk ?_
        refine AB.seq ?_
        replace hr := bnd hr; obtain ⟨x32, h_6, hr⟩ := hr
        replace hr := bnd hr; obtain ⟨x33, h_7, hr⟩ := hr
        refine AB.rw ?_
        refine wS (v := (eS x25.1)) (sv (d_move rfl)) ?_
        refine wS (v := (eS vprefix)) (sv (d_move rfl)) ?_
        refine wS (v := (eS x32)) (sv (d_bin rfl rfl (bin_cat _ _ _ h_6))) ?_
        refine wC (v := (.tup [(eS x33.1), (eB x33.2)])) (h' := []) rfl (Vm.Fn.pure (strings_CutPrefix_ok N x25.1 x32 x33 h_7) rfl rfl) ?_
        refine wS (v := (.tup [(eS x33.1), (eB x33.2)])) (sv (d_move rfl)) ?_
        refine wS (v := (eS x33.1)) (sv (d_ext rfl rfl)) ?_
        refine wS (v := (eB x33.2)) (sv (d_ext rfl rfl)) ?_
        refine wS (v := (eS x33.1)) (sv (d_assign rfl)) ?_
        refine wS (v := (eB x33.2)) (sv (d_assign rfl)) ?_
        refine OpsW.nil ?_
        refine Ex.then_mk ?_
        refine AB.seq ?_
        refine AB.seq ?_
        refine AB.rw ?_
        refine wS (v := (eB x33.2)) (sv (d_move rfl)) ?_
        refine wS (v := (eB (!x33.2))) (sv (d_un rfl (un_not _ _))) ?_
        refine OpsW.nil ?_
        refine Ex.then_mk ?_
        refine AB.cnd rfl (fun h8 => ?_) (fun h8 => ?_)
        · replace hr := iteT hr h8
          refine AB.seq ?_
          refine AB.rw ?_
          refine wS (v := (.row (some true) 1 [])) (sv (d_assign rfl)) ?_
          refine wS (v := (eI .i64 270)) (sv (d_assign rfl)) ?_
          refine OpsW.nil ?_
          refine Ex.then_mk ?_
          refine AB.ret ?_
          refine Ex.then_ret_mk ?_
          obtain rfl := Option.some.inj hr
          exact done_ret (r1 := (.tup [(.row (some true) 1 []), (eI .i64 270)])) (res2 Tryd.results15 (rvT rfl) (rvT rfl)) (Ghost.trans (Ghost.virt (fr' := [(0, (.tup [(.sl 0 0 0 1 false), (eI .i64 270)]))]) (h1 := []) 5 (FLe.le rfl (V.le_tup (V.les_cons (V.le_virt rfl) (V.les_cons (V.le_refl _ _) V.les_nil))) FLe.nil) HLv.nil) (Ghost.rn [0] rfl rfl (FLe.le rfl (V.le_tup (V.les_cons (by first | exact V.le_refl _ _ | (simp only [len_set, len_cpy]; exact V.le_refl _ _)) (V.les_cons (V.le_refl _ _) V.les_nil))) FLe.nil) (HLe.live rfl V.les_nil rfl HLe.nil) rfl))
        · replace hr := iteF hr h8
          refine AB.skip ?_
          refine Ex.then_mk ?_
          refine AB.seq ?_
          refine AB.seq ?_
          refine AB.rw ?_
          refine wS (v := (eS x33.1)) (sv (d_move rfl)) ?_
          refine wS (v := (eI .i64 (x33.1.size : Int))) (sv (d_len rfl (lenT ti9))) ?_
          refine wS (v := (eB (decide ((x33.1.size : Int) < 6)))) (sv (d_bin rfl rfl (bin_lss ..))) ?_
          refine OpsW.nil ?_
          refine Ex.then_mk ?_
          refine AB.cnd rfl (fun h9 => ?_) (fun h9 => ?_)
          · replace hr := iteT hr h9
            refine AB.seq ?_
            refine AB.rw ?_
            refine wS (v := (.row (some true) 1 [])) (sv (d_assign rfl)) ?_
            refine wS (v := (eI .i64 1)) (sv (d_assign rfl)) ?_
            refine OpsW.nil ?_
            refine Ex.then_mk ?_
            refine AB.ret ?_
            refine Ex.then_ret_mk ?_
            obtain rfl := Option.some.inj hr
            exact done_ret (r1 := (.tup [(.row (some true) 1 []), (eI .i64 1)])) (res2 Tryd.results15 (rvT rfl) (rvT rfl)) (Ghost.trans (Ghost.virt (fr' := [(0, (.tup [(.sl 0 0 0 1 false), (eI .i64 1)]))]) (h1 := []) 5 (FLe.le rfl (V.le_tup (V.les_cons (V.le_virt rfl) (V.les_cons (V.le_refl _ _) V.les_nil))) FLe.nil) HLv.nil) (Ghost.rn [0] rfl rfl (FLe.le rfl (V.le_tup (V.les_cons (by first | exact V.le_refl _ _ | (simp only [len_set, len_cpy]; exact V.le_refl _ _)) (V.les_cons (V.le_refl _ _) V.les_nil))) FLe.nil) (HLe.live rfl V.les_nil rfl HLe.nil) rfl))
          · replace hr := iteF hr h9
            refine AB.skip ?_
            refine Ex.then_mk ?_
            refine AB.seq ?_
            replace hr := bnd hr; obtain ⟨x43, h_10, hr⟩ := hr
            refine AB.rw ?_
            refine wS (v := (eS x33.1)) (sv (d_move rfl)) ?_
            refine wS (v := (eI .i64 (x33.1.size : Int))) (sv (d_len rfl (lenT ti9))) ?_
            refine wS (v := (.sl 0 0 x43.length 1 false)) (h' := [some ⟨5, x43.map (eI .u8)⟩]) (sv (d_mk rfl rfl (mkS (E := (eI .u8)) (y := 0) ti22 ti5 ⟨Nat.le_of_ble_eq_true rfl, rfl, rfl⟩ rfl rfl rfl h_10 rfl rfl))) ?_
            refine wS (v := (.sl 0 0 x43.length 1 false)) (sv (d_assign rfl)) ?_
            refine OpsW.nil ?_
            refine Ex.then_mk ?_
            refine AB.seq_g fun K1 hK1 hG1 => ?_
            have J1 : ∀ (l0 : List Int), address_Decode_J1 N vprefix l0 = some r → K1 (mkF 81 [(0, (eS vprefix)), (9, (.sl 0 0 l0.length 1 false))]) [some ⟨5, l0.map (eI .u8)⟩] := by
              intro l0 hr
              unfold address_Decode_J1 at hr
              refine hK1 _ _ ?_
              refine AB.seq ?_
              refine AB.rw ?_
              refine wS (v := (.sl 0 0 l0.length 1 false)) (sv (d_move rfl)) ?_
              refine wS (v := (eI .i64 (l0.length : Int))) (sv (d_len rfl (lenS ti22))) ?_
              refine wS (v := (eI .i64 (IntKind.i64.wrap ((l0.length : Int) - 6)))) (sv (d_bin rfl rfl (bin_sub ..))) ?_
              refine wS (v := (eI .i64 (IntKind.i64.wrap ((l0.length : Int) - 6)))) (sv (d_assign rfl)) ?_
              refine OpsW.nil ?_
              refine Ex.then_mk ?_
              refine AB.seq ?_
              refine AB.seq ?_
              refine AB.ghost (Ghost.conv (fr' := [(0, (eS vprefix)), (9, (.row none 1 (l0.map (eI .u8)))), (12, (eI .i64 (IntKind.i64.wrap ((l0.length : Int) - 6)))), (61, (.row none 1 (l0.map (eI .u8)))), (62, (eI .i64 (l0.length : Int))), (63, (eI .i64 (IntKind.i64.wrap ((l0.length : Int) - 6))))]) (h' := [none]) (FCv.cons rfl (Conv.same (subB_sub rfl)) (FCv.cons rfl (Conv.row (subB_sub rfl) rfl rfl (all_mapE (fun _ => rfl)) (by first | rfl | simp only [List.length_map, len_set, len_cpy])) (FCv.cons rfl (Conv.same (subB_sub rfl)) (FCv.cons rfl (Conv.row (subB_sub rfl) rfl rfl (all_mapE (fun _ => rfl)) (by first | rfl | simp only [List.length_map, len_set, len_cpy])) (FCv.cons rfl (Conv.same (subB_sub rfl)) (FCv.cons rfl (Conv.same (subB_sub rfl)) FCv.nil)))))) (HCv.dead HCv.nil)) ?_
              replace hr := bnd hr; obtain ⟨x67, h_11, hr⟩ := hr
              replace hr := bnd hr; obtain ⟨x68, h_12, hr⟩ := hr
              replace hr := bnd hr; obtain ⟨x71, h_14, hr⟩ := hr
              replace hr := bnd hr; obtain ⟨x72, h_15, hr⟩ := hr
              replace hr := bnd hr; obtain ⟨q, h_16, hr⟩ := hr
              have hc13 : Vm.Fn Tryd.prog 9 [none] [(eS vprefix), (.row none 1 (x67.map (eI .u8)))] (.agg (x68.map (eI .u8))) [none] := (Vm.Fn.pure (address_Checksum_ok N vprefix x67 x68 h_12) rfl (by simp only [V.rn, V.rns, rns_eI, rns_eB]))
              refine AB.rg (Env.one mixed hc13 allF (fun _ _ => rfl)) (fun _ => by show drawOk allF _ = true; decide +kernel) ?_
              refine tS (v := (eS vprefix)) (sv (d_move rfl)) ?_
              refine tS (v := (.row none 1 (l0.map (eI .u8)))) (sv (d_move rfl)) ?_
              refine tS (v := (eI .i64 (IntKind.i64.wrap ((l0.length : Int) - 6)))) (sv (d_move rfl)) ?_
              refine tS (v := (.row none 1 (x67.map (eI .u8)))) (sv (d_slice rfl rfl rfl (slR ti22 ti5 rfl rfl h_11))) ?_
              refine tS (v := (.agg (x68.map (eI .u8)))) (h' := [none]) (sv (d_call rfl Env.one_O)) ?_
              refine tS (v := (.row none 1 (l0.map (eI .u8)))) (sv (d_move rfl)) ?_
              refine tS (v := (eI .i64 (IntKind.i64.wrap ((l0.length : Int) - 6)))) (sv (d_move rfl)) ?_
              refine tS (v := (.row none 1 (x71.map (eI .u8)))) (sv (d_slice rfl rfl rfl (slR ti22 ti5 rfl rfl h_14))) ?_
              refine tS (v := (.eptr [.agg (x72.map (eI .u8))] 0 0)) (sv (d_sap rfl (apR (E := (eI .u8)) ti24 (fun _ => rfl) (Nat.le_of_ble_eq_true rfl) h_15))) ?_
              refine tS (v := (.agg (x72.map (eI .u8)))) (sv (d_load rfl (ldAE (E := (eI .u8)) (l := x72) ti24 rfl (arp_len h_15)))) ?_
              refine tS (v := (eB (!(x68 == x72)))) (sv (d_bin rfl rfl (bin_neqA _ _ ti24 ti5 rfl dep (arr_len h_16) (arp_len h_15)))) ?_
              refine OpsTo.nil ?_
              refine Ex.then_mk ?_
              refine AB.cnd rfl (fun h17 => ?_) (fun h17 => ?_)
              · replace hr := iteT hr h17
                refine AB.seq ?_
                refine AB.rw ?_
                refine wS (v := (.row (some true) 1 [])) (sv (d_assign rfl)) ?_
                refine wS (v := (eI .i64 241)) (sv (d_assign rfl)) ?_
                refine OpsW.nil ?_
                refine Ex.then_mk ?_
                refine AB.ret ?_
                refine Ex.then_ret_mk ?_
                obtain rfl := Option.some.inj hr
                exact done_ret (r1 := (.tup [(.row (some true) 1 []), (eI .i64 241)])) (res2 Tryd.results15 (rvT rfl) (rvT rfl)) (Ghost.trans (Ghost.virt (fr' := [(0, (.tup [(.sl 1 0 0 1 false), (eI .i64 241)]))]) (h1 := [none]) 5 (FLe.le rfl (V.le_tup (V.les_cons (V.le_virt rfl) (V.les_cons (V.le_refl _ _) V.les_nil))) FLe.nil) (HLv.dead HLv.nil)) (Ghost.rn [1] rfl rfl (FLe.le rfl (V.le_tup (V.les_cons (by first | exact V.le_refl _ _ | (simp only [len_set, len_cpy]; exact V.le_refl _ _)) (V.les_cons (V.le_refl _ _) V.les_nil))) FLe.nil) (HLe.live rfl V.les_nil rfl HLe.nil) rfl))
              · replace hr := iteF hr h17
                refine AB.skip ?_
                refine Ex.then_mk ?_
                refine AB.seq ?_
                replace hr := bnd hr; obtain ⟨x78, h_18, hr⟩ := hr
                refine AB.rw ?_
                refine wS (v := (.row none 1 (l0.map (eI .u8)))) (sv (d_move rfl)) ?_
                refine wS (v := (eI .i64 (IntKind.i64.wrap ((l0.length : Int) - 6)))) (sv (d_move rfl)) ?_
                refine wS (v := (.row none 1 (x67.map (eI .u8)))) (sv (d_slice rfl rfl rfl (slR ti22 ti5 rfl rfl h_11))) ?_
                refine wC (v := (.tup [(.sl 1 0 x78.1.length 1 false), (eI .i64 x78.2)])) (h' := [none, some ⟨5, x78.1.map (eI .u8)⟩]) rfl (Vm.Fn.lendB (address_Back_ok N x67 x78 h_18) [] (by decide) rfl Lend.nil rfl rfl (by simp only [lent, lendSet, lendSet_nil, rnH, Blk.rn, V.rns, V.rn, sg, List.map_cons, List.map_nil, Option.map_some, Option.map_none, List.drop_succ_cons, List.drop_zero, List.drop_nil, List.set_cons_zero, List.set_cons_succ, List.cons_append, List.nil_append, List.append_nil, rns_eI, rns_eB, rns_eS, rns_eL, List.getElem?_cons_zero, List.getElem?_cons_succ, List.getElem?_nil, List.length_cons, List.length_nil, Nat.reduceAdd, Nat.reduceSub, Nat.add_zero, Nat.zero_add, Nat.sub_self, Nat.sub_zero])) ?_
                refine wS (v := (.sl 1 0 x78.1.length 1 false)) (sv (d_ext rfl rfl)) ?_
                refine wS (v := (eI .i64 x78.2)) (sv (d_ext rfl rfl)) ?_
                refine wS (v := (.sl 1 0 x78.1.length 1 false)) (sv (d_assign rfl)) ?_
                refine wS (v := (eI .i64 x78.2)) (sv (d_assign rfl)) ?_
                refine OpsW.nil ?_
                refine Ex.then_mk ?_
                refine AB.ret ?_
                obtain rfl := Option.some.inj hr
                exact done_ret (r1 := (.tup [(.sl 1 0 x78.1.length 1 false), (eI .i64 x78.2)])) (res2 Tryd.results15 (rvT rfl) (rvT rfl)) (Ghost.rn [1] rfl rfl (FLe.same rfl FLe.nil) (HLe.live rfl (les_map (fun _ => rfl) _) (all_map (fun _ => rfl) _) HLe.nil) rfl)
            refine AB.seq ?_
            refine AB.rw ?_
            refine wS (v := (eS x33.1)) (sv (d_move rfl)) ?_
            refine wS (v := (eI .i64 (x33.1.size : Int))) (sv (d_len rfl (lenT ti9))) ?_
            refine wS (v := (eI .i64 0)) (sv (d_move rfl)) ?_
            refine OpsW.nil ?_
            refine Ex.then_mk ?_
            replace hr := bnd hr; obtain ⟨res2, hL2, hr⟩ := hr
            refine AB.block ?_
            refine AB.loopN (fun m s h => ∃ (x46 : Int) (l0_1 : List Int), address_Decode_L2 N vprefix x33 m x46 l0_1 = some res2 ∧ Ghost 0 s h (mkF 81 [(0, (eS vprefix)), (7, (eS x33.1)), (9, (.sl 0 0 l0_1.length 1 false)), (45, (eI .i64 (x33.1.size : Int))), (46, (eI .i64 x46))]) [some ⟨5, l0_1.map (eI .u8)⟩]) (n := N) ⟨0, x43, hL2, (Ghost.rn [0] rfl rfl (FLe.same rfl (FLe.same rfl (FLe.same rfl (FLe.same rfl (FLe.same rfl FLe.nil))))) (HLe.live rfl (les_map (fun _ => rfl) _) (all_map (fun _ => rfl) _) HLe.nil) rfl)⟩ (by rintro s h ⟨_, _, h0, _⟩; simp [address_Decode_L2] at h0) ?_
            rintro m2 s h ⟨x46, l0_1, hr2, hg⟩
            refine AB.ghost hg ?_
            clear hg hL2
            rw [address_Decode_L2] at hr2
            refine AB.seq ?_
            refine AB.rw ?_
            refine wS (v := (eB (decide (x46 < (x33.1.size : Int))))) (sv (d_bin rfl rfl (bin_lss ..))) ?_
            refine OpsW.nil ?_
            refine Ex.then_mk ?_
            refine AB.seq ?_
            refine AB.cnd rfl (fun h19 => ?_) (fun h19 => ?_)
            · replace hr2 := iteT hr2 h19
              refine AB.skip ?_
              refine Ex.then_mk ?_
              refine AB.seq ?_
              refine AB.block ?_
              refine AB.seq ?_
              refine AB.rw ?_
              refine wS (v := (eI .i64 x46)) (sv (d_move rfl)) ?_
              refine wS (v := (eI .i64 x46)) (sv (d_assign rfl)) ?_
              refine OpsW.nil ?_
              refine Ex.then_mk ?_
              refine AB.seq ?_
              replace hr2 := bnd hr2; obtain ⟨x51, h_20, hr2⟩ := hr2
              replace hr2 := bnd hr2; obtain ⟨x52, h_21, hr2⟩ := hr2
              refine AB.rw ?_
              refine wS (v := (eS x33.1)) (sv (d_move rfl)) ?_
              refine wS (v := (eI .i64 x46)) (sv (d_move rfl)) ?_
              refine wS (v := (eI .u8 x51)) (sv (d_ix rfl rfl (ixT ti9 h_20))) ?_
              refine wC (v := (eI .i64 x52)) (h' := [some ⟨5, l0_1.map (eI .u8)⟩]) rfl (Vm.Fn.pure (strings_IndexByte_ok N (⟨#[113, 112, 122, 114, 121, 57, 120, 56, 103, 102, 50, 116, 118, 100, 119, 48, 115, 51, 106, 110, 53, 52, 107, 104, 99, 101, 54, 109, 117, 97, 55, 108]⟩) x51 x52 h_21) rfl rfl) ?_
              refine wS (v := (eI .i64 x52)) (sv (d_assign rfl)) ?_
              refine OpsW.nil ?_
              refine Ex.then_mk ?_
              refine AB.seq ?_
              refine AB.seq ?_
              refine AB.rw ?_
              refine wS (v := (eI .i64 x52)) (sv (d_move rfl)) ?_
              refine wS (v := (eB (decide (x52 < 0)))) (sv (d_bin rfl rfl (bin_lss ..))) ?_
              refine OpsW.nil ?_
              refine Ex.then_mk ?_
              refine AB.cnd rfl (fun h22 => ?_) (fun h22 => ?_)
              · replace hr2 := iteT hr2 h22
                refine AB.seq ?_
                refine AB.rw ?_
                refine wS (v := (.row (some true) 1 [])) (sv (d_assign rfl)) ?_
                refine wS (v := (eI .i64 7)) (sv (d_assign rfl)) ?_
                refine OpsW.nil ?_
                refine Ex.then_mk ?_
                refine AB.ret ?_
                refine Ex.then_ret_mk ?_
                refine Ex.inBlock_ret_mk ?_
                refine Ex.then_ret_mk ?_
                refine Ex.then_ret_mk ?_
                refine Ex.inBlock_ret_mk ?_
                refine Ex.then_ret_mk ?_
                obtain rfl := Option.some.inj hr2
                obtain rfl := Option.some.inj hr
                exact done_ret (r1 := (.tup [(.row (some true) 1 []), (eI .i64 7)])) (res2 Tryd.results15 (rvT rfl) (rvT rfl)) (Ghost.trans (Ghost.virt (fr' := [(0, (.tup [(.sl 1 0 0 1 false), (eI .i64 7)]))]) (h1 := [some ⟨5, l0_1.map (eI .u8)⟩]) 5 (FLe.le rfl (V.le_tup (V.les_cons (V.le_virt rfl) (V.les_cons (V.le_refl _ _) V.les_nil))) FLe.nil) (HLv.live (V.les_refl _ _) (all_map (fun _ => rfl) _) HLv.nil)) (Ghost.rn [1] rfl rfl (FLe.le rfl (V.le_tup (V.les_cons (by first | exact V.le_refl _ _ | (simp only [len_set, len_cpy]; exact V.le_refl _ _)) (V.les_cons (V.le_refl _ _) V.les_nil))) FLe.nil) (HLe.live rfl V.les_nil rfl HLe.nil) rfl))
              · replace hr2 := iteF hr2 h22
                refine AB.skip ?_
                refine Ex.then_mk ?_
                replace hr2 := bnd hr2; obtain ⟨x59, h_23, hr2⟩ := hr2
                refine AB.rw ?_
                refine wS (v := (.sl 0 0 l0_1.length 1 false)) (sv (d_move rfl)) ?_
                refine wS (v := (eI .i64 x46)) (sv (d_move rfl)) ?_
                refine wS (v := (eI .i64 x52)) (sv (d_move rfl)) ?_
                refine wS (v := (eI .u8 (IntKind.u8.wrap x52))) (sv (d_conv rfl (conv_int _ ⟨_, ti3⟩ ti5 rfl))) ?_
                refine wS (v := (.ptr 0 (Int.toNat x46))) (sv (d_ia rfl rfl (iaS rfl ti22 ti5 rfl h_23))) ?_
                refine wN (h' := [some ⟨5, (l0_1.set (Int.toNat x46) (IntKind.u8.wrap x52)).map (eI .u8)⟩]) (sv (d_store rfl rfl (stXe (E := (eI .u8)) (y := IntKind.u8.wrap x52) ti5 rfl rfl h_23 rfl rfl rfl))) ?_
                refine OpsW.nil ?_
                refine Ex.inBlock_mk ?_
                refine Ex.then_mk ?_
                refine AB.rw ?_
                refine wS (v := (eI .i64 (IntKind.i64.wrap (x46 + 1)))) (sv (d_bin rfl rfl (bin_add ..))) ?_
                refine wS (v := (eI .i64 (IntKind.i64.wrap (x46 + 1)))) (sv (d_move rfl)) ?_
                refine OpsW.nil ?_
                refine Ex.then_mk ?_
                exact ⟨IntKind.i64.wrap (x46 + 1), l0_1.set (Int.toNat x46) (IntKind.u8.wrap x52), hr2, (Ghost.rn [0] rfl rfl (FLe.same rfl (FLe.same rfl (FLe.le rfl (by first | exact V.le_refl _ _ | (simp only [len_set, len_cpy]; exact V.le_refl _ _)) (FLe.same rfl (FLe.same rfl FLe.nil))))) (HLe.live rfl (les_map (fun _ => rfl) _) (all_map (fun _ => rfl) _) HLe.nil) rfl)⟩
            · replace hr2 := iteF hr2 h19
              refine AB.exit ?_
              refine Ex.then_exit_mk ?_
              refine Ex.then_exit_mk ?_
              refine Ex.inBlock_same_mk ?_
              obtain rfl := Option.some.inj hr2
              refine Ex.then_mk ?_
              exact hG1 _ _ _ _ (Ghost.rn [0] rfl rfl (FLe.same rfl (FLe.same rfl FLe.nil)) (HLe.live rfl (les_map (fun _ => rfl) _) (all_map (fun _ => rfl) _) HLe.nil) rfl) (J1 l0_1 hr)
set_option maxRecDepth 20000 in
set_option maxHeartbeats 1000000 in
theorem ref27_small_ok (N : Nat) (vs : ByteArray) (r : ByteArray × Bool) (hr : ref27_small N vs = some r) :
    Vm.Fn Tryd.prog 28 [] [(eS vs)] (.tup [(eS r.1), (eB r.2)]) [] := by
  refine fn_ab Tryd.func28 rfl (by kernel_rfl) Tryd.ntmps28 (Nat.le_of_ble_eq_true rfl) rfl (fr := [(0, (eS vs))]) rfl ?_
  unfold ref27_small at hr
  refine AB.seq ?_
  refine AB.rw ?_
  refine wS (v := (eS .empty)) (sv (d_assign rfl)) ?_
  refine wS (v := (eB false)) (sv (d_assign rfl)) ?_
  refine OpsW.nil ?_
  refine Ex.then_mk ?_
  refine AB.seq ?_
  refine AB.rw ?_
  refine wS (v := (eB false)) (sv (d_assign rfl)) ?_
  refine wS (v := (eB false)) (sv (d_assign rfl)) ?_
  refine OpsW.nil ?_
  refine Ex.then_mk ?_
  refine AB.seq ?_
  replace hr := bnd hr; obtain ⟨x9, h_1, hr⟩ := hr
  refine AB.rw ?_
  refine wS (v := (eS vs)) (sv (d_move rfl)) ?_
  refine wStr (h' := [some ⟨5, x9.map (eI .u8)⟩]) rfl ti9 ti22 ti5 h_1 rfl rfl ?_
  refine wS (v := (.sl 0 0 x9.length 1 false)) (sv (d_assign rfl)) ?_
  refine OpsW.nil ?_
  refine Ex.then_mk ?_
  refine AB.seq_g fun K1 hK1 hG1 => ?_
  have J1 : ∀ (low : Bool) (high : Bool) (l0 : List Int), ref27_small_J1 N low high l0 = some r → K1 (mkF 57 [(4, (eB low)), (5, (eB high)), (6, (.sl 0 0 l0.length 1 false))]) [some ⟨5, l0.map (eI .u8)⟩] := by
    intro low high l0 hr
    unfold ref27_small_J1 at hr
    refine hK1 _ _ ?_
    refine AB.seq_g fun K2 hK2 hG2 => ?_
    have J2 : ∀ (x3 : Bool), ref27_small_J2 N l0 x3 = some r → K2 (mkF 57 [(2, (eS (strOf l0))), (3, (eB x3))]) [] := by
      intro x3 hr
      unfold ref27_small_J2 at hr
      refine hK2 _ _ ?_
      refine AB.ret ?_
      obtain rfl := Option.some.inj hr
      exact done_ret (r1 := (.tup [(eS (strOf l0)), (eB x3)])) (res2 Tryd.results28 (rvT rfl) (rvT rfl)) (Ghost.rn [] rfl rfl (FLe.same rfl FLe.nil) HLe.nil rfl)
    rcases Bool.eq_false_or_eq_true low with h2 | h2
    · replace hr := iteT hr h2
      refine AB.rw ?_
      refine wS (v := (.sl 0 0 l0.length 1 false)) (sv (d_move rfl)) ?_
      refine wS (v := (eS (strOf l0))) (sv (d_conv rfl (convB ti22 ti9 ti5 (srcS rfl rfl)))) ?_
      refine wS (v := (eB low)) (sv (d_move rfl)) ?_
      refine wS (v := (eB low)) (sv (d_move rfl)) ?_
      refine wS (v := (eB high)) (svG rfl rfl h2 (d_move rfl)) ?_
      refine wS (v := (eB high)) (sv (d_pickT rfl h2 rfl)) ?_
      refine wS (v := (eS (strOf l0))) (sv (d_assign rfl)) ?_
      refine wS (v := (eB high)) (sv (d_assign rfl)) ?_
      refine OpsW.nil ?_
      refine Ex.then_mk ?_
      exact hG2 _ _ _ _ (Ghost.rn [] rfl rfl (FLe.same rfl (FLe.same rfl FLe.nil)) HLe.nil rfl) (J2 high hr)
    · replace hr := iteF hr h2
      refine AB.rw ?_
      refine wS (v := (.sl 0 0 l0.length 1 false)) (sv (d_move rfl)) ?_
      refine wS (v := (eS (strOf l0))) (sv (d_conv rfl (convB ti22 ti9 ti5 (srcS rfl rfl)))) ?_
      refine wS (v := (eB low)) (sv (d_move rfl)) ?_
      refine wS (v := (eB low)) (sv (d_move rfl)) ?_
      refine wS (svX rfl rfl h2) ?_
      refine wS (v := (eB false)) (sv (d_pickF rfl h2 rfl)) ?_
      refine wS (v := (eS (strOf l0))) (sv (d_assign rfl)) ?_
      refine wS (v := (eB false)) (sv (d_assign rfl)) ?_
      refine OpsW.nil ?_
      refine Ex.then_mk ?_
      exact hG2 _ _ _ _ (Ghost.rn [] rfl rfl (FLe.same rfl (FLe.same rfl FLe.nil)) HLe.nil rfl) (J2 false hr)
  refine AB.seq ?_
  refine AB.rw ?_
  refine wS (v := (eI .i64 0)) (sv (d_assign rfl)) ?_
  refine OpsW.nil ?_
  refine Ex.then_mk ?_
  replace hr := bnd hr; obtain ⟨res3, hL3, hr⟩ := hr
  refine AB.block ?_
  refine AB.loopN (fun m s h => ∃ (low_1 : Bool) (high_1 : Bool) (vi : Int) (l0_1 : List Int), ref27_small_L3 N m low_1 high_1 vi l0_1 = some res3 ∧ Ghost 0 s h (mkF 57 [(4, (eB low_1)), (5, (eB high_1)), (6, (.sl 0 0 l0_1.length 1 false)), (7, (eI .i64 vi))]) [some ⟨5, l0_1.map (eI .u8)⟩]) (n := N) ⟨false, false, 0, x9, hL3, (Ghost.rn [0] rfl rfl (FLe.same rfl (FLe.same rfl (FLe.same rfl (FLe.same rfl FLe.nil)))) (HLe.live rfl (les_map (fun _ => rfl) _) (all_map (fun _ => rfl) _) HLe.nil) rfl)⟩ (by rintro s h ⟨_, _, _, _, h0, _⟩; simp [ref27_small_L3] at h0) ?_
  rintro m3 s h ⟨low_1, high_1, vi, l0_1, hr3, hg⟩
  refine AB.ghost hg ?_
  clear hg hL3
  rw [ref27_small_L3] at hr3
  refine AB.seq ?_
  refine AB.seq ?_
  refine AB.rw ?_
  refine wS (v := (eI .i64 vi)) (sv (d_move rfl)) ?_
  refine wS (v := (.sl 0 0 l0_1.length 1 false)) (sv (d_move rfl)) ?_
  refine wS (v := (eI .i64 (l0_1.length : Int))) (sv (d_len rfl (lenS ti22))) ?_
  refine wS (v := (eB (decide (vi < (l0_1.length : Int))))) (sv (d_bin rfl rfl (bin_lss ..))) ?_
  refine OpsW.nil ?_
  refine Ex.then_mk ?_
  refine AB.cnd rfl (fun h3 => ?_) (fun h3 => ?_)
  · replace hr3 := iteT hr3 h3
    refine AB.skip ?_
    refine Ex.then_mk ?_
    refine AB.seq_g fun K4 hK4 hG4 => ?_
    have J4 : ∀ (low_2 : Bool) (high_2 : Bool) (l0_2 : List Int), ref27_small_J4 N vi (ref27_small_L3 N m3) low_2 high_2 l0_2 = some res3 → K4 (mkF 57 [(4, (eB low_2)), (5, (eB high_2)), (6, (.sl 0 0 l0_2.length 1 false)), (7, (eI .i64 vi))]) [some ⟨5, l0_2.map (eI .u8)⟩] := by
      intro low_2 high_2 l0_2 hr3
      unfold ref27_small_J4 at hr3
      refine hK4 _ _ ?_
      refine AB.rw ?_
      refine wS (v := (eI .i64 vi)) (sv (d_move rfl)) ?_
      refine wS (v := (eI .i64 (IntKind.i64.wrap (vi + 1)))) (sv (d_bin rfl rfl (bin_add ..))) ?_
      refine wS (v := (eI .i64 (IntKind.i64.wrap (vi + 1)))) (sv (d_assign rfl)) ?_
      refine OpsW.nil ?_
      refine Ex.then_mk ?_
      exact ⟨low_2, high_2, IntKind.i64.wrap (vi + 1), l0_2, hr3, (Ghost.rn [0] rfl rfl (FLe.same rfl (FLe.same rfl (FLe.same rfl (FLe.same rfl FLe.nil)))) (HLe.live rfl (les_map (fun _ => rfl) _) (all_map (fun _ => rfl) _) HLe.nil) rfl)⟩
    refine AB.block ?_
    refine AB.seq_g fun K5 hK5 hG5 => ?_
    have J5 : ∀ (low_3 : Bool), ref27_small_J5 N high_1 vi l0_1 (ref27_small_L3 N m3) low_3 = some res3 → K5 (mkF 57 [(4, (eB low_3)), (5, (eB high_1)), (6, (.sl 0 0 l0_1.length 1 false)), (7, (eI .i64 vi))]) [some ⟨5, l0_1.map (eI .u8)⟩] := by
      intro low_3 hr3
      unfold ref27_small_J5 at hr3
      refine hK5 _ _ ?_
      refine AB.seq_g fun K6 hK6 hG6 => ?_
      have J6 : ∀ (x42 : Bool), ref27_small_J6 N high_1 vi l0_1 low_3 (ref27_small_L3 N m3) x42 = some res3 → K6 (mkF 57 [(4, (eB low_3)), (5, (eB high_1)), (6, (.sl 0 0 l0_1.length 1 false)), (7, (eI .i64 vi)), (42, (eB x42))]) [some ⟨5, l0_1.map (eI .u8)⟩] := by
        intro x42 hr3
        unfold ref27_small_J6 at hr3
        refine hK6 _ _ ?_
        refine AB.cnd rfl (fun h4 => ?_) (fun h4 => ?_)
        · replace hr3 := iteT hr3 h4
          refine AB.seq ?_
          refine AB.rw ?_
          refine wS (v := (eB true)) (sv (d_assign rfl)) ?_
          refine OpsW.nil ?_
          refine Ex.then_mk ?_
          replace hr3 := bnd hr3; obtain ⟨x47, h_5, hr3⟩ := hr3
          refine AB.rw ?_
          refine wS (v := (.sl 0 0 l0_1.length 1 false)) (sv (d_move rfl)) ?_
          refine wS (v := (eI .i64 vi)) (sv (d_move rfl)) ?_
          refine wS (v := (.sl 0 0 l0_1.length 1 false)) (sv (d_move rfl)) ?_
          refine wS (v := (eI .i64 vi)) (sv (d_move rfl)) ?_
          refine wS (v := (.ptr 0 (Int.toNat vi))) (sv (d_ia rfl rfl (iaS rfl ti22 ti5 rfl h_5))) ?_
          refine wS (v := (eI .u8 x47)) (sv (d_load rfl (ldX (E := (eI .u8)) (y := x47) ti5 rfl rfl h_5))) ?_
          refine wS (v := (eI .u8 (IntKind.u8.wrap (x47 + 32)))) (sv (d_bin rfl rfl (bin_add ..))) ?_
          refine wS (v := (.ptr 0 (Int.toNat vi))) (sv (d_ia rfl rfl (iaS rfl ti22 ti5 rfl h_5))) ?_
          refine wN (h' := [some ⟨5, (l0_1.set (Int.toNat vi) (IntKind.u8.wrap (x47 + 32))).map (eI .u8)⟩]) (sv (d_store rfl rfl (stXe (E := (eI .u8)) (y := IntKind.u8.wrap (x47 + 32)) ti5 rfl rfl h_5 rfl rfl rfl))) ?_
          refine OpsW.nil ?_
          refine Ex.inBlock_mk ?_
          refine Ex.then_mk ?_
          exact hG4 _ _ _ _ (Ghost.rn [0] rfl rfl (FLe.same rfl (FLe.same rfl (FLe.le rfl (by first | exact V.le_refl _ _ | (simp only [len_set, len_cpy]; exact V.le_refl _ _)) (FLe.same rfl FLe.nil)))) (HLe.live rfl (les_map (fun _ => rfl) _) (all_map (fun _ => rfl) _) HLe.nil) rfl) (J4 low_3 true (l0_1.set (Int.toNat vi) (IntKind.u8.wrap (x47 + 32))) hr3)
        · replace hr3 := iteF hr3 h4
          refine AB.skip ?_
          refine Ex.inBlock_mk ?_
          refine Ex.then_mk ?_
          exact hG4 _ _ _ _ (Ghost.rn [0] rfl rfl (FLe.same rfl (FLe.same rfl (FLe.same rfl (FLe.same rfl FLe.nil)))) (HLe.live rfl (les_map (fun _ => rfl) _) (all_map (fun _ => rfl) _) HLe.nil) rfl) (J4 low_3 high_1 l0_1 hr3)
      replace hr3 := bnd hr3; obtain ⟨x33, h_6, hr3⟩ := hr3
      rcases Bool.eq_false_or_eq_true (decide (65 ≤ x33)) with h7 | h7
      · replace hr3 := iteT hr3 h7
        refine AB.rw ?_
        refine wS (v := (.sl 0 0 l0_1.length 1 false)) (sv (d_move rfl)) ?_
        refine wS (v := (eI .i64 vi)) (sv (d_move rfl)) ?_
        refine wS (v := (.ptr 0 (Int.toNat vi))) (sv (d_ia rfl rfl (iaS rfl ti22 ti5 rfl h_6))) ?_
        refine wS (v := (eI .u8 x33)) (sv (d_load rfl (ldX (E := (eI .u8)) (y := x33) ti5 rfl rfl h_6))) ?_
        refine wS (v := (eB (decide (65 ≤ x33)))) (sv (d_bin rfl rfl (bin_geq ..))) ?_
        refine wS (v := (eB (decide (65 ≤ x33)))) (sv (d_move rfl)) ?_
        refine wS (v := (.sl 0 0 l0_1.length 1 false)) (svG rfl rfl h7 (d_move rfl)) ?_
        refine wS (v := (eI .i64 vi)) (svG rfl rfl h7 (d_move rfl)) ?_
        refine wS (v := (.ptr 0 (Int.toNat vi))) (svG rfl rfl h7 (d_ia rfl rfl (iaS rfl ti22 ti5 rfl h_6))) ?_
        refine wS (v := (eI .u8 x33)) (svG rfl rfl h7 (d_load rfl (ldX (E := (eI .u8)) (y := x33) ti5 rfl rfl h_6))) ?_
        refine wS (v := (eB (decide (x33 ≤ 90)))) (svG rfl rfl h7 (d_bin rfl rfl (bin_leq ..))) ?_
        refine wS (v := (eB (decide (x33 ≤ 90)))) (sv (d_pickT rfl h7 rfl)) ?_
        refine OpsW.nil ?_
        refine Ex.then_mk ?_
        exact hG6 _ _ _ _ (Ghost.rn [0] rfl rfl (FLe.same rfl (FLe.same rfl (FLe.same rfl (FLe.same rfl (FLe.same rfl FLe.nil))))) (HLe.live rfl (les_map (fun _ => rfl) _) (all_map (fun _ => rfl) _) HLe.nil) rfl) (J6 (decide (x33 ≤ 90)) hr3)
      · replace hr3 := iteF hr3 h7
        refine AB.rw ?_
        refine wS (v := (.sl 0 0 l0_1.length 1 false)) (sv (d_move rfl)) ?_
        refine wS (v := (eI .i64 vi)) (sv (d_move rfl)) ?_
        refine wS (v := (.ptr 0 (Int.toNat vi))) (sv (d_ia rfl rfl (iaS rfl ti22 ti5 rfl h_6))) ?_
        refine wS (v := (eI .u8 x33)) (sv (d_load rfl (ldX (E := (eI .u8)) (y := x33) ti5 rfl rfl h_6))) ?_
        refine wS (v := (eB (decide (65 ≤ x33)))) (sv (d_bin rfl rfl (bin_geq ..))) ?_
        refine wS (v := (eB (decide (65 ≤ x33)))) (sv (d_move rfl)) ?_
        refine wS (svX rfl rfl h7) ?_
        refine wS (svX rfl rfl h7) ?_
        refine wS (svX rfl rfl h7) ?_
        refine wS (svX rfl rfl h7) ?_
        refine wS (svX rfl rfl h7) ?_
        refine wS (v := (eB false)) (sv (d_pickF rfl h7 rfl)) ?_
        refine OpsW.nil ?_
        refine Ex.then_mk ?_
        exact hG6 _ _ _ _ (Ghost.rn [0] rfl rfl (FLe.same rfl (FLe.same rfl (FLe.same rfl (FLe.same rfl (FLe.same rfl FLe.nil))))) (HLe.live rfl (les_map (fun _ => rfl) _) (all_map (fun _ => rfl) _) HLe.nil) rfl) (J6 false hr3)
    rcases Bool.eq_false_or_eq_true low_1 with h8 | h8
    · replace hr3 := iteT hr3 h8
      refine AB.rw ?_
      refine wS (v := (eB low_1)) (sv (d_move rfl)) ?_
      refine wS (v := (eB low_1)) (sv (d_move rfl)) ?_
      refine wS (svX rfl rfl h8) ?_
      refine wS (svX rfl rfl h8) ?_
      refine wS (svX rfl rfl h8) ?_
      refine wS (svX rfl rfl h8) ?_
      refine wS (svX rfl rfl h8) ?_
      refine wS (svX rfl rfl h8) ?_
      refine wS (svU rfl rfl) ?_
      refine wS (svU rfl rfl) ?_
      refine wS (svU rfl rfl) ?_
      refine wS (svU rfl rfl) ?_
      refine wS (svU rfl rfl) ?_
      refine wS (svX rfl rfl h8) ?_
      refine wS (v := (eB true)) (sv (d_pickT rfl h8 rfl)) ?_
      refine wS (v := (eB true)) (sv (d_assign rfl)) ?_
      refine OpsW.nil ?_
      refine Ex.then_mk ?_
      exact hG5 _ _ _ _ (Ghost.rn [0] rfl rfl (FLe.same rfl (FLe.same rfl (FLe.same rfl (FLe.same rfl FLe.nil)))) (HLe.live rfl (les_map (fun _ => rfl) _) (all_map (fun _ => rfl) _) HLe.nil) rfl) (J5 true hr3)
    · replace hr3 := iteF hr3 h8
      replace hr3 := bnd hr3; obtain ⟨x20, h_9, hr3⟩ := hr3
      rcases Bool.eq_false_or_eq_true (decide (97 ≤ x20)) with h10 | h10
      · replace hr3 := iteT hr3 h10
        refine AB.rw ?_
        refine wS (v := (eB low_1)) (sv (d_move rfl)) ?_
        refine wS (v := (eB low_1)) (sv (d_move rfl)) ?_
        refine wS (v := (.sl 0 0 l0_1.length 1 false)) (svG rfl rfl h8 (d_move rfl)) ?_
        refine wS (v := (eI .i64 vi)) (svG rfl rfl h8 (d_move rfl)) ?_
        refine wS (v := (.ptr 0 (Int.toNat vi))) (svG rfl rfl h8 (d_ia rfl rfl (iaS rfl ti22 ti5 rfl h_9))) ?_
        refine wS (v := (eI .u8 x20)) (svG rfl rfl h8 (d_load rfl (ldX (E := (eI .u8)) (y := x20) ti5 rfl rfl h_9))) ?_
        refine wS (v := (eB (decide (97 ≤ x20)))) (svG rfl rfl h8 (d_bin rfl rfl (bin_geq ..))) ?_
        refine wS (v := (eB (decide (97 ≤ x20)))) (svG rfl rfl h8 (d_move rfl)) ?_
        refine wS (v := (.sl 0 0 l0_1.length 1 false)) (svG rfl rfl h10 (d_move rfl)) ?_
        refine wS (v := (eI .i64 vi)) (svG rfl rfl h10 (d_move rfl)) ?_
        refine wS (v := (.ptr 0 (Int.toNat vi))) (svG rfl rfl h10 (d_ia rfl rfl (iaS rfl ti22 ti5 rfl h_9))) ?_
        refine wS (v := (eI .u8 x20)) (svG rfl rfl h10 (d_load rfl (ldX (E := (eI .u8)) (y := x20) ti5 rfl rfl h_9))) ?_
        refine wS (v := (eB (decide (x20 ≤ 122)))) (svG rfl rfl h10 (d_bin rfl rfl (bin_leq ..))) ?_
        refine wS (v := (eB (decide (x20 ≤ 122)))) (svG rfl rfl h8 (d_pickT rfl h10 rfl)) ?_
        refine wS (v := (eB (decide (x20 ≤ 122)))) (sv (d_pickF rfl h8 rfl)) ?_
        refine wS (v := (eB (decide (x20 ≤ 122)))) (sv (d_assign rfl)) ?_
        refine OpsW.nil ?_
        refine Ex.then_mk ?_
        exact hG5 _ _ _ _ (Ghost.rn [0] rfl rfl (FLe.same rfl (FLe.same rfl (FLe.same rfl (FLe.same rfl FLe.nil)))) (HLe.live rfl (les_map (fun _ => rfl) _) (all_map (fun _ => rfl) _) HLe.nil) rfl) (J5 (decide (x20 ≤ 122)) hr3)
      · replace hr3 := iteF hr3 h10
        refine AB.rw ?_
        refine wS (v := (eB low_1)) (sv (d_move rfl)) ?_
        refine wS (v := (eB low_1)) (sv (d_move rfl)) ?_
        refine wS (v := (.sl 0 0 l0_1.length 1 false)) (svG rfl rfl h8 (d_move rfl)) ?_
        refine wS (v := (eI .i64 vi)) (svG rfl rfl h8 (d_move rfl)) ?_
        refine wS (v := (.ptr 0 (Int.toNat vi))) (svG rfl rfl h8 (d_ia rfl rfl (iaS rfl ti22 ti5 rfl h_9))) ?_
        refine wS (v := (eI .u8 x20)) (svG rfl rfl h8 (d_load rfl (ldX (E := (eI .u8)) (y := x20) ti5 rfl rfl h_9))) ?_
        refine wS (v := (eB (decide (97 ≤ x20)))) (svG rfl rfl h8 (d_bin rfl rfl (bin_geq ..))) ?_
        refine wS (v := (eB (decide (97 ≤ x20)))) (svG rfl rfl h8 (d_move rfl)) ?_
        refine wS (svX rfl rfl h10) ?_
        refine wS (svX rfl rfl h10) ?_
        refine wS (svX rfl rfl h10) ?_
        refine wS (svX rfl rfl h10) ?_
        refine wS (svX rfl rfl h10) ?_
        refine wS (v := (eB false)) (svG rfl rfl h8 (d_pickF rfl h10 rfl)) ?_
        refine wS (v := (eB false)) (sv (d_pickF rfl h8 rfl)) ?_
        refine wS (v := (eB false)) (sv (d_assign rfl)) ?_
        refine OpsW.nil ?_
        refine Ex.then_mk ?_
        exact hG5 _ _ _ _ (Ghost.rn [0] rfl rfl (FLe.same rfl (FLe.same rfl (FLe.same rfl (FLe.same rfl FLe.nil)))) (HLe.live rfl (les_map (fun _ => rfl) _) (all_map (fun _ => rfl) _) HLe.nil) rfl) (J5 false hr3)
  · replace hr3 := iteF hr3 h3
    refine AB.exit ?_
    refine Ex.then_exit_mk ?_
    refine Ex.then_exit_mk ?_
    refine Ex.inBlock_same_mk ?_
    obtain rfl := Option.some.inj hr3
    refine Ex.then_mk ?_
    exact hG1 _ _ _ _ (Ghost.rn [0] rfl rfl (FLe.same rfl (FLe.same rfl (FLe.same rfl FLe.nil))) (HLe.live rfl (les_map (fun _ => rfl) _) (all_map (fun _ => rfl) _) HLe.nil) rfl) (J1 low_1 high_1 l0_1 hr)
set_option maxRecDepth 20000 in
set_option maxHeartbeats 1000000 in
theorem ref27_digit_ok (N : Nat) (c : Int) (r : Int) (hr : ref27_digit N c = some r) :
    Vm.Fn Tryd.prog 29 [] [(eI .u8 c)] (eI .i64 r) [] := by
  refine fn_ab Tryd.func29 rfl (by kernel_rfl) Tryd.ntmps29 (Nat.le_of_ble_eq_true rfl) rfl (fr := [(0, (eI .u8 c))]) rfl ?_
  unfold ref27_digit at hr
  refine AB.seq ?_
  refine AB.rw ?_
  refine wS (v := (eI .i64 0)) (sv (d_assign rfl)) ?_
  refine OpsW.nil ?_
  refine Ex.then_mk ?_
  refine AB.seq_g fun K1 hK1 hG1 => ?_
  have J1 : ref27_digit_J1 N = some r → K1 (mkF 13 []) [] := by
    intro hr
    unfold ref27_digit_J1 at hr
    refine hK1 _ _ ?_
    refine AB.seq ?_
    refine AB.rw ?_
    refine wS (v := (eI .i64 (-1))) (sv (d_assign rfl)) ?_
    refine OpsW.nil ?_
    refine Ex.then_mk ?_
    refine AB.ret ?_
    obtain rfl := Option.some.inj hr
    exact done_ret (r1 := (eI .i64 (-1))) (res1 Tryd.results29 (rvT rfl)) (Ghost.rn [] rfl rfl (FLe.same rfl FLe.nil) HLe.nil rfl)
  refine AB.seq ?_
  refine AB.rw ?_
  refine wS (v := (eI .i64 0)) (sv (d_assign rfl)) ?_
  refine OpsW.nil ?_
  refine Ex.then_mk ?_
  replace hr := bnd hr; obtain ⟨res2, hL2, hr⟩ := hr
  refine AB.block ?_
  refine AB.loopN (fun m s h => ∃ (vi : Int), ref27_digit_L2 N c m vi = some res2 ∧ Ghost 0 s h (mkF 13 [(0, (eI .u8 c)), (3, (eI .i64 vi))]) []) (n := N) ⟨0, hL2, (Ghost.rn [] rfl rfl (FLe.same rfl (FLe.same rfl FLe.nil)) HLe.nil rfl)⟩ (by rintro s h ⟨_, h0, _⟩; simp [ref27_digit_L2] at h0) ?_
  rintro m2 s h ⟨vi, hr2, hg⟩
  refine AB.ghost hg ?_
  clear hg hL2
  rw [ref27_digit_L2] at hr2
  refine AB.seq ?_
  refine AB.seq ?_
  refine AB.rw ?_
  refine wS (v := (eI .i64 vi)) (sv (d_move rfl)) ?_
  refine wS (v := (eB (decide (vi < 32)))) (sv (d_bin rfl rfl (bin_lss ..))) ?_
  refine OpsW.nil ?_
  refine Ex.then_mk ?_
  refine AB.cnd rfl (fun h1 => ?_) (fun h1 => ?_)
  · replace hr2 := iteT hr2 h1
    refine AB.skip ?_
    refine Ex.then_mk ?_
    refine AB.seq ?_
    refine AB.block ?_
    refine AB.seq ?_
    replace hr2 := bnd hr2; obtain ⟨x9, h_2, hr2⟩ := hr2
    refine AB.rw ?_
    refine wS (v := (eI .i64 vi)) (sv (d_move rfl)) ?_
    refine wS (v := (eI .u8 x9)) (sv (d_ix rfl rfl (ixT ti9 h_2))) ?_
    refine wS (v := (eI .u8 c)) (sv (d_move rfl)) ?_
    refine wS (v := (eB (x9 == c))) (sv (d_bin rfl rfl (bin_eql ..))) ?_
    refine OpsW.nil ?_
    refine Ex.then_mk ?_
    refine AB.cnd rfl (fun h3 => ?_) (fun h3 => ?_)
    · replace hr2 := iteT hr2 h3
      refine AB.seq ?_
      refine AB.rw ?_
      refine wS (v := (eI .i64 vi)) (sv (d_move rfl)) ?_
      refine wS (v := (eI .i64 vi)) (sv (d_assign rfl)) ?_
      refine OpsW.nil ?_
      refine Ex.then_mk ?_
      refine AB.ret ?_
      refine Ex.inBlock_ret_mk ?_
      refine Ex.then_ret_mk ?_
      refine Ex.then_ret_mk ?_
      refine Ex.inBlock_ret_mk ?_
      refine Ex.then_ret_mk ?_
      obtain rfl := Option.some.inj hr2
      obtain rfl := Option.some.inj hr
      exact done_ret (r1 := (eI .i64 vi)) (res1 Tryd.results29 (rvT rfl)) (Ghost.rn [] rfl rfl (FLe.same rfl FLe.nil) HLe.nil rfl)
    · replace hr2 := iteF hr2 h3
      refine AB.skip ?_
      refine Ex.inBlock_mk ?_
      refine Ex.then_mk ?_
      refine AB.rw ?_
      refine wS (v := (eI .i64 vi)) (sv (d_move rfl)) ?_
      refine wS (v := (eI .i64 (IntKind.i64.wrap (vi + 1)))) (sv (d_bin rfl rfl (bin_add ..))) ?_
      refine wS (v := (eI .i64 (IntKind.i64.wrap (vi + 1)))) (sv (d_assign rfl)) ?_
      refine OpsW.nil ?_
      refine Ex.then_mk ?_
      exact ⟨IntKind.i64.wrap (vi + 1), hr2, (Ghost.rn [] rfl rfl (FLe.same rfl (FLe.same rfl FLe.nil)) HLe.nil rfl)⟩
  · replace hr2 := iteF hr2 h1
    refine AB.exit ?_
    refine Ex.then_exit_mk ?_
    refine Ex.then_exit_mk ?_
    refine Ex.inBlock_same_mk ?_
    obtain rfl := Option.some.inj hr2
    refine Ex.then_mk ?_
    exact hG1 _ _ _ _ (Ghost.rn [] rfl rfl FLe.nil HLe.nil rfl) (J1 hr)
set_option maxRecDepth 20000 in
set_option maxHeartbeats 1000000 in
theorem ref27_Back_ok (N : Nat) (d : List Int) (r : (List Int) × Int) (hr : ref27_Back N d = some r) :
    Vm.Fn Tryd.prog 30 [] [(.row none 1 (d.map (eI .u8)))] (.tup [(.sl 0 0 r.1.length 1 false), (eI .i64 r.2)]) [some ⟨5, r.1.map (eI .u8)⟩] := by
  refine fn_ab Tryd.func30 rfl (by kernel_rfl) Tryd.ntmps30 (Nat.le_of_ble_eq_true rfl) rfl (fr := [(0, (.row none 1 (d.map (eI .u8))))]) rfl ?_
  unfold ref27_Back at hr
  refine AB.seq ?_
  refine AB.rw ?_
  refine wS (v := (.row (some true) 1 [])) (sv (d_assign rfl)) ?_
  refine wS (v := (eI .i64 0)) (sv (d_assign rfl)) ?_
  refine OpsW.nil ?_
  refine Ex.then_mk ?_
  refine AB.seq_g fun K1 hK1 hG1 => ?_
  have J1 : ref27_Back_J1 N d = some r → K1 (mkF 74 [(0, (.row none 1 (d.map (eI .u8))))]) [] := by
    intro hr
    unfold ref27_Back_J1 at hr
    refine hK1 _ _ ?_
    refine AB.seq ?_
    replace hr := bnd hr; obtain ⟨x23, h_1, hr⟩ := hr
    refine AB.rw ?_
    refine wS (v := (.row none 1 (d.map (eI .u8)))) (sv (d_move rfl)) ?_
    refine wS (v := (eI .i64 (d.length : Int))) (sv (d_len rfl (lenR ti22))) ?_
    refine wS (v := (eI .i64 (IntKind.i64.wrap (5 * (d.length : Int))))) (sv (d_bin rfl rfl (bin_mul ..))) ?_
    refine wS (v := (eI .i64 (IntKind.i64.wrap (Int.tdiv (IntKind.i64.wrap (5 * (d.length : Int))) 8)))) (sv (d_bin rfl rfl (bin_quo' _ _ _ _ rfl))) ?_
    refine wS (v := (.sl 0 0 x23.length 1 false)) (h' := [some ⟨5, x23.map (eI .u8)⟩]) (sv (d_mk rfl rfl (mkS (E := (eI .u8)) (y := 0) ti22 ti5 ⟨Nat.le_of_ble_eq_true rfl, rfl, rfl⟩ rfl rfl rfl h_1 rfl rfl))) ?_
    refine wS (v := (.sl 0 0 x23.length 1 false)) (sv (d_assign rfl)) ?_
    refine OpsW.nil ?_
    refine Ex.then_mk ?_
    refine AB.seq_g fun K2 hK2 hG2 => ?_
    have J2 : ∀ (l0 : List Int), ref27_Back_J2 N d l0 = some r → K2 (mkF 74 [(0, (.row none 1 (d.map (eI .u8)))), (5, (.sl 0 0 l0.length 1 false))]) [some ⟨5, l0.map (eI .u8)⟩] := by
      intro l0 hr
      unfold ref27_Back_J2 at hr
      refine hK2 _ _ ?_
      refine AB.seq ?_
      refine AB.seq ?_
      refine AB.rw ?_
      refine wS (v := (.row none 1 (d.map (eI .u8)))) (sv (d_move rfl)) ?_
      refine wS (v := (eI .i64 (d.length : Int))) (sv (d_len rfl (lenR ti22))) ?_
      refine wS (v := (eI .i64 (IntKind.i64.wrap (5 * (d.length : Int))))) (sv (d_bin rfl rfl (bin_mul ..))) ?_
      refine wS (v := (.sl 0 0 l0.length 1 false)) (sv (d_move rfl)) ?_
      refine wS (v := (eI .i64 (l0.length : Int))) (sv (d_len rfl (lenS ti22))) ?_
      refine wS (v := (eI .i64 (IntKind.i64.wrap (8 * (l0.length : Int))))) (sv (d_bin rfl rfl (bin_mul ..))) ?_
      refine wS (v := (eI .i64 (IntKind.i64.wrap ((IntKind.i64.wrap (5 * (d.length : Int))) - (IntKind.i64.wrap (8 * (l0.length : Int))))))) (sv (d_bin rfl rfl (bin_sub ..))) ?_
      refine wS (v := (eB (decide (5 ≤ (IntKind.i64.wrap ((IntKind.i64.wrap (5 * (d.length : Int))) - (IntKind.i64.wrap (8 * (l0.length : Int))))))))) (sv (d_bin rfl rfl (bin_geq ..))) ?_
      refine OpsW.nil ?_
      refine Ex.then_mk ?_
      refine AB.cnd rfl (fun h2 => ?_) (fun h2 => ?_)
      · replace hr := iteT hr h2
        refine AB.seq ?_
        refine AB.rw ?_
        refine wS (v := (.row (some true) 1 [])) (sv (d_assign rfl)) ?_
        refine wS (v := (eI .i64 3)) (sv (d_assign rfl)) ?_
        refine OpsW.nil ?_
        refine Ex.then_mk ?_
        refine AB.ret ?_
        refine Ex.then_ret_mk ?_
        obtain rfl := Option.some.inj hr
        exact done_ret (r1 := (.tup [(.row (some true) 1 []), (eI .i64 3)])) (res2 Tryd.results30 (rvT rfl) (rvT rfl)) (Ghost.trans (Ghost.virt (fr' := [(0, (.tup [(.sl 1 0 0 1 false), (eI .i64 3)]))]) (h1 := [some ⟨5, l0.map (eI .u8)⟩]) 5 (FLe.le rfl (V.le_tup (V.les_cons (V.le_virt rfl) (V.les_cons (V.le_refl _ _) V.les_nil))) FLe.nil) (HLv.live (V.les_refl _ _) (all_map (fun _ => rfl) _) HLv.nil)) (Ghost.rn [1] rfl rfl (FLe.le rfl (V.le_tup (V.les_cons (by first | exact V.le_refl _ _ | (simp only [len_set, len_cpy]; exact V.le_refl _ _)) (V.les_cons (V.le_refl _ _) V.les_nil))) FLe.nil) (HLe.live rfl V.les_nil rfl HLe.nil) rfl))
      · replace hr := iteF hr h2
        refine AB.skip ?_
        refine Ex.then_mk ?_
        refine AB.seq ?_
        refine AB.rw ?_
        refine wS (v := (.sl 0 0 l0.length 1 false)) (sv (d_move rfl)) ?_
        refine wS (v := (.sl 0 0 l0.length 1 false)) (sv (d_assign rfl)) ?_
        refine wS (v := (eI .i64 0)) (sv (d_assign rfl)) ?_
        refine OpsW.nil ?_
        refine Ex.then_mk ?_
        refine AB.ret ?_
        obtain rfl := Option.some.inj hr
        exact done_ret (r1 := (.tup [(.sl 0 0 l0.length 1 false), (eI .i64 0)])) (res2 Tryd.results30 (rvT rfl) (rvT rfl)) (Ghost.rn [0] rfl rfl (FLe.same rfl FLe.nil) (HLe.live rfl (les_map (fun _ => rfl) _) (all_map (fun _ => rfl) _) HLe.nil) rfl)
    refine AB.seq ?_
    refine AB.rw ?_
    refine wS (v := (eI .i64 0)) (sv (d_assign rfl)) ?_
    refine OpsW.nil ?_
    refine Ex.then_mk ?_
    replace hr := bnd hr; obtain ⟨res3, hL3, hr⟩ := hr
    refine AB.block ?_
    refine AB.loopN (fun m s h => ∃ (vi : Int) (l0_1 : List Int), ref27_Back_L3 N d m vi l0_1 = some res3 ∧ Ghost 0 s h (mkF 74 [(0, (.row none 1 (d.map (eI .u8)))), (5, (.sl 0 0 l0_1.length 1 false)), (6, (eI .i64 vi))]) [some ⟨5, l0_1.map (eI .u8)⟩]) (n := N) ⟨0, x23, hL3, (Ghost.rn [0] rfl rfl (FLe.same rfl (FLe.same rfl (FLe.same rfl FLe.nil))) (HLe.live rfl (les_map (fun _ => rfl) _) (all_map (fun _ => rfl) _) HLe.nil) rfl)⟩ (by rintro s h ⟨_, _, h0, _⟩; simp [ref27_Back_L3] at h0) ?_
    rintro m3 s h ⟨vi, l0_1, hr3, hg⟩
    refine AB.ghost hg ?_
    clear hg hL3
    rw [ref27_Back_L3] at hr3
    refine AB.seq ?_
    refine AB.seq ?_
    refine AB.rw ?_
    refine wS (v := (eI .i64 vi)) (sv (d_move rfl)) ?_
    refine wS (v := (.row none 1 (d.map (eI .u8)))) (sv (d_move rfl)) ?_
    refine wS (v := (eI .i64 (d.length : Int))) (sv (d_len rfl (lenR ti22))) ?_
    refine wS (v := (eI .i64 (IntKind.i64.wrap (5 * (d.length : Int))))) (sv (d_bin rfl rfl (bin_mul ..))) ?_
    refine wS (v := (eB (decide (vi < (IntKind.i64.wrap (5 * (d.length : Int))))))) (sv (d_bin rfl rfl (bin_lss ..))) ?_
    refine OpsW.nil ?_
    refine Ex.then_mk ?_
    refine AB.cnd rfl (fun h3 => ?_) (fun h3 => ?_)
    · replace hr3 := iteT hr3 h3
      refine AB.skip ?_
      refine Ex.then_mk ?_
      refine AB.seq_g fun K4 hK4 hG4 => ?_
      have J4 : ∀ (l0_2 : List Int), ref27_Back_J4 N d vi (ref27_Back_L3 N d m3) l0_2 = some res3 → K4 (mkF 74 [(0, (.row none 1 (d.map (eI .u8)))), (5, (.sl 0 0 l0_2.length 1 false)), (6, (eI .i64 vi))]) [some ⟨5, l0_2.map (eI .u8)⟩] := by
        intro l0_2 hr3
        unfold ref27_Back_J4 at hr3
        refine hK4 _ _ ?_
        refine AB.rw ?_
        refine wS (v := (eI .i64 vi)) (sv (d_move rfl)) ?_
        refine wS (v := (eI .i64 (IntKind.i64.wrap (vi + 1)))) (sv (d_bin rfl rfl (bin_add ..))) ?_
        refine wS (v := (eI .i64 (IntKind.i64.wrap (vi + 1)))) (sv (d_assign rfl)) ?_
        refine OpsW.nil ?_
        refine Ex.then_mk ?_
        exact ⟨IntKind.i64.wrap (vi + 1), l0_2, hr3, (Ghost.rn [0] rfl rfl (FLe.same rfl (FLe.same rfl (FLe.same rfl FLe.nil))) (HLe.live rfl (les_map (fun _ => rfl) _) (all_map (fun _ => rfl) _) HLe.nil) rfl)⟩
      refine AB.block ?_
      refine AB.seq ?_
      replace hr3 := bnd hr3; obtain ⟨x34, h_4, hr3⟩ := hr3
      replace hr3 := bnd hr3; obtain ⟨x40, h_5, hr3⟩ := hr3
      refine AB.rw ?_
      refine wS (v := (.row none 1 (d.map (eI .u8)))) (sv (d_move rfl)) ?_
      refine wS (v := (eI .i64 vi)) (sv (d_move rfl)) ?_
      refine wS (v := (eI .i64 (IntKind.i64.wrap (Int.tdiv vi 5)))) (sv (d_bin rfl rfl (bin_quo' _ _ _ _ rfl))) ?_
      refine wS (sv (d_ia rfl rfl (iaR ti22 ti5 h_4))) ?_
      refine wS (v := (eI .u8 x34)) (sv (d_load rfl (ldR h_4 (part1 ti5 rfl rfl)))) ?_
      refine wS (v := (eI .i64 vi)) (sv (d_move rfl)) ?_
      refine wS (v := (eI .i64 (Int.tmod vi 5))) (sv (d_bin rfl rfl (bin_rem' _ _ _ _ rfl))) ?_
      refine wS (v := (eI .i64 (IntKind.i64.wrap (4 - (Int.tmod vi 5))))) (sv (d_bin rfl rfl (bin_sub ..))) ?_
      refine wS (v := (eI .u64 (IntKind.u64.wrap (IntKind.i64.wrap (4 - (Int.tmod vi 5)))))) (sv (d_conv rfl (conv_int _ ⟨_, ti3⟩ ti43 rfl))) ?_
      refine wS (v := (eI .u8 x40)) (sv (d_bin rfl rfl (bin_shr' _ _ _ _ h_5))) ?_
      refine wS (v := (eI .u8 (bits .and .u8 x40 1))) (sv (d_bin rfl rfl (bin_and ..))) ?_
      refine wS (v := (eI .u8 (bits .and .u8 x40 1))) (sv (d_assign rfl)) ?_
      refine OpsW.nil ?_
      refine Ex.then_mk ?_
      refine AB.seq ?_
      refine AB.rw ?_
      refine wS (v := (eI .i64 vi)) (sv (d_move rfl)) ?_
      refine wS (v := (.sl 0 0 l0_1.length 1 false)) (sv (d_move rfl)) ?_
      refine wS (v := (eI .i64 (l0_1.length : Int))) (sv (d_len rfl (lenS ti22))) ?_
      refine wS (v := (eI .i64 (IntKind.i64.wrap (8 * (l0_1.length : Int))))) (sv (d_bin rfl rfl (bin_mul ..))) ?_
      refine wS (v := (eB (decide (vi < (IntKind.i64.wrap (8 * (l0_1.length : Int))))))) (sv (d_bin rfl rfl (bin_lss ..))) ?_
      refine OpsW.nil ?_
      refine Ex.then_mk ?_
      refine AB.cnd rfl (fun h6 => ?_) (fun h6 => ?_)
      · replace hr3 := iteT hr3 h6
        replace hr3 := bnd hr3; obtain ⟨x53, h_7, hr3⟩ := hr3
        replace hr3 := bnd hr3; obtain ⟨x60, h_8, hr3⟩ := hr3
        refine AB.rw ?_
        refine wS (v := (.sl 0 0 l0_1.length 1 false)) (sv (d_move rfl)) ?_
        refine wS (v := (eI .i64 vi)) (sv (d_move rfl)) ?_
        refine wS (v := (eI .i64 (IntKind.i64.wrap (Int.tdiv vi 8)))) (sv (d_bin rfl rfl (bin_quo' _ _ _ _ rfl))) ?_
        refine wS (v := (.sl 0 0 l0_1.length 1 false)) (sv (d_move rfl)) ?_
        refine wS (v := (eI .i64 vi)) (sv (d_move rfl)) ?_
        refine wS (v := (eI .i64 (IntKind.i64.wrap (Int.tdiv vi 8)))) (sv (d_bin rfl rfl (bin_quo' _ _ _ _ rfl))) ?_
        refine wS (v := (.ptr 0 (Int.toNat (IntKind.i64.wrap (Int.tdiv vi 8))))) (sv (d_ia rfl rfl (iaS rfl ti22 ti5 rfl h_7))) ?_
        refine wS (v := (eI .u8 x53)) (sv (d_load rfl (ldX (E := (eI .u8)) (y := x53) ti5 rfl rfl h_7))) ?_
        refine wS (v := (eI .u8 (bits .and .u8 x40 1))) (sv (d_move rfl)) ?_
        refine wS (v := (eI .i64 vi)) (sv (d_move rfl)) ?_
        refine wS (v := (eI .i64 (Int.tmod vi 8))) (sv (d_bin rfl rfl (bin_rem' _ _ _ _ rfl))) ?_
        refine wS (v := (eI .i64 (IntKind.i64.wrap (7 - (Int.tmod vi 8))))) (sv (d_bin rfl rfl (bin_sub ..))) ?_
        refine wS (v := (eI .u64 (IntKind.u64.wrap (IntKind.i64.wrap (7 - (Int.tmod vi 8)))))) (sv (d_conv rfl (conv_int _ ⟨_, ti3⟩ ti43 rfl))) ?_
        refine wS (v := (eI .u8 x60)) (sv (d_bin rfl rfl (bin_shl' _ _ _ _ h_8))) ?_
        refine wS (v := (eI .u8 (bits .or .u8 x53 x60))) (sv (d_bin rfl rfl (bin_or ..))) ?_
        refine wS (v := (.ptr 0 (Int.toNat (IntKind.i64.wrap (Int.tdiv vi 8))))) (sv (d_ia rfl rfl (iaS rfl ti22 ti5 rfl h_7))) ?_
        refine wN (h' := [some ⟨5, (l0_1.set (Int.toNat (IntKind.i64.wrap (Int.tdiv vi 8))) (bits .or .u8 x53 x60)).map (eI .u8)⟩]) (sv (d_store rfl rfl (stXe (E := (eI .u8)) (y := bits .or .u8 x53 x60) ti5 rfl rfl h_7 rfl rfl rfl))) ?_
        refine OpsW.nil ?_
        refine Ex.inBlock_mk ?_
        refine Ex.then_mk ?_
        exact hG4 _ _ _ _ (Ghost.rn [0] rfl rfl (FLe.same rfl (FLe.le rfl (by first | exact V.le_refl _ _ | (simp only [len_set, len_cpy]; exact V.le_refl _ _)) (FLe.same rfl FLe.nil))) (HLe.live rfl (les_map (fun _ => rfl) _) (all_map (fun _ => rfl) _) HLe.nil) rfl) (J4 (l0_1.set (Int.toNat (IntKind.i64.wrap (Int.tdiv vi 8))) (bits .or .u8 x53 x60)) hr3)
      · replace hr3 := iteF hr3 h6
        refine AB.seq ?_
        refine AB.rw ?_
        refine wS (v := (eI .u8 (bits .and .u8 x40 1))) (sv (d_move rfl)) ?_
        refine wS (v := (eB ((bits .and .u8 x40 1) != 0))) (sv (d_bin rfl rfl (bin_neq ..))) ?_
        refine OpsW.nil ?_
        refine Ex.then_mk ?_
        refine AB.cnd rfl (fun h9 => ?_) (fun h9 => ?_)
        · replace hr3 := iteT hr3 h9
          refine AB.seq ?_
          refine AB.rw ?_
          refine wS (v := (.row (some true) 1 [])) (sv (d_assign rfl)) ?_
          refine wS (v := (eI .i64 3)) (sv (d_assign rfl)) ?_
          refine OpsW.nil ?_
          refine Ex.then_mk ?_
          refine AB.ret ?_
          refine Ex.inBlock_ret_mk ?_
          refine Ex.then_ret_mk ?_
          refine Ex.then_ret_mk ?_
          refine Ex.inBlock_ret_mk ?_
          refine Ex.then_ret_mk ?_
          obtain rfl := Option.some.inj hr3
          obtain rfl := Option.some.inj hr
          exact done_ret (r1 := (.tup [(.row (some true) 1 []), (eI .i64 3)])) (res2 Tryd.results30 (rvT rfl) (rvT rfl)) (Ghost.trans (Ghost.virt (fr' := [(0, (.tup [(.sl 1 0 0 1 false), (eI .i64 3)]))]) (h1 := [some ⟨5, l0_1.map (eI .u8)⟩]) 5 (FLe.le rfl (V.le_tup (V.les_cons (V.le_virt rfl) (V.les_cons (V.le_refl _ _) V.les_nil))) FLe.nil) (HLv.live (V.les_refl _ _) (all_map (fun _ => rfl) _) HLv.nil)) (Ghost.rn [1] rfl rfl (FLe.le rfl (V.le_tup (V.les_cons (by first | exact V.le_refl _ _ | (simp only [len_set, len_cpy]; exact V.le_refl _ _)) (V.les_cons (V.le_refl _ _) V.les_nil))) FLe.nil) (HLe.live rfl V.les_nil rfl HLe.nil) rfl))
        · replace hr3 := iteF hr3 h9
          refine AB.skip ?_
          refine Ex.inBlock_mk ?_
          refine Ex.then_mk ?_
          exact hG4 _ _ _ _ (Ghost.rn [0] rfl rfl (FLe.same rfl (FLe.same rfl (FLe.same rfl FLe.nil))) (HLe.live rfl (les_map (fun _ => rfl) _) (all_map (fun _ => rfl) _) HLe.nil) rfl) (J4 l0_1 hr3)
    · replace hr3 := iteF hr3 h3
      refine AB.exit ?_
      refine Ex.then_exit_mk ?_
      refine Ex.then_exit_mk ?_
      refine Ex.inBlock_same_mk ?_
      obtain rfl := Option.some.inj hr3
      refine Ex.then_mk ?_
      exact hG2 _ _ _ _ (Ghost.rn [0] rfl rfl (FLe.same rfl (FLe.same rfl FLe.nil)) (HLe.live rfl (les_map (fun _ => rfl) _) (all_map (fun _ => rfl) _) HLe.nil) rfl) (J2 l0_1 hr)
  refine AB.seq ?_
  refine AB.rw ?_
  refine wS (v := (eI .i64 0)) (sv (d_assign rfl)) ?_
  refine OpsW.nil ?_
  refine Ex.then_mk ?_
  replace hr := bnd hr; obtain ⟨res5, hL5, hr⟩ := hr
  refine AB.block ?_
  refine AB.loopN (fun m s h => ∃ (vi_1 : Int), ref27_Back_L5 N d m vi_1 = some res5 ∧ Ghost 0 s h (mkF 74 [(0, (.row none 1 (d.map (eI .u8)))), (4, (eI .i64 vi_1))]) []) (n := N) ⟨0, hL5, (Ghost.rn [] rfl rfl (FLe.same rfl (FLe.same rfl FLe.nil)) HLe.nil rfl)⟩ (by rintro s h ⟨_, h0, _⟩; simp [ref27_Back_L5] at h0) ?_
  rintro m5 s h ⟨vi_1, hr5, hg⟩
  refine AB.ghost hg ?_
  clear hg hL5
  rw [ref27_Back_L5] at hr5
  refine AB.seq ?_
  refine AB.seq ?_
  refine AB.rw ?_
  refine wS (v := (eI .i64 vi_1)) (sv (d_move rfl)) ?_
  refine wS (v := (.row none 1 (d.map (eI .u8)))) (sv (d_move rfl)) ?_
  refine wS (v := (eI .i64 (d.length : Int))) (sv (d_len rfl (lenR ti22))) ?_
  refine wS (v := (eB (decide (vi_1 < (d.length : Int))))) (sv (d_bin rfl rfl (bin_lss ..))) ?_
  refine OpsW.nil ?_
  refine Ex.then_mk ?_
  refine AB.cnd rfl (fun h10 => ?_) (fun h10 => ?_)
  · replace hr5 := iteT hr5 h10
    refine AB.skip ?_
    refine Ex.then_mk ?_
    refine AB.seq ?_
    refine AB.block ?_
    refine AB.seq ?_
    replace hr5 := bnd hr5; obtain ⟨x16, h_11, hr5⟩ := hr5
    refine AB.rw ?_
    refine wS (v := (.row none 1 (d.map (eI .u8)))) (sv (d_move rfl)) ?_
    refine wS (v := (eI .i64 vi_1)) (sv (d_move rfl)) ?_
    refine wS (sv (d_ia rfl rfl (iaR ti22 ti5 h_11))) ?_
    refine wS (v := (eI .u8 x16)) (sv (d_load rfl (ldR h_11 (part1 ti5 rfl rfl)))) ?_
    refine wS (v := (eB (decide (31 < x16)))) (sv (d_bin rfl rfl (bin_gtr ..))) ?_
    refine OpsW.nil ?_
    refine Ex.then_mk ?_
    refine AB.cnd rfl (fun h12 => ?_) (fun h12 => ?_)
    · replace hr5 := iteT hr5 h12
      refine AB.seq ?_
      refine AB.rw ?_
      refine wS (v := (.row (some true) 1 [])) (sv (d_assign rfl)) ?_
      refine wS (v := (eI .i64 5)) (sv (d_assign rfl)) ?_
      refine OpsW.nil ?_
      refine Ex.then_mk ?_
      refine AB.ret ?_
      refine Ex.inBlock_ret_mk ?_
      refine Ex.then_ret_mk ?_
      refine Ex.then_ret_mk ?_
      refine Ex.inBlock_ret_mk ?_
      refine Ex.then_ret_mk ?_
      obtain rfl := Option.some.inj hr5
      obtain rfl := Option.some.inj hr
      exact done_ret (r1 := (.tup [(.row (some true) 1 []), (eI .i64 5)])) (res2 Tryd.results30 (rvT rfl) (rvT rfl)) (Ghost.trans (Ghost.virt (fr' := [(0, (.tup [(.sl 0 0 0 1 false), (eI .i64 5)]))]) (h1 := []) 5 (FLe.le rfl (V.le_tup (V.les_cons (V.le_virt rfl) (V.les_cons (V.le_refl _ _) V.les_nil))) FLe.nil) HLv.nil) (Ghost.rn [0] rfl rfl (FLe.le rfl (V.le_tup (V.les_cons (by first | exact V.le_refl _ _ | (simp only [len_set, len_cpy]; exact V.le_refl _ _)) (V.les_cons (V.le_refl _ _) V.les_nil))) FLe.nil) (HLe.live rfl V.les_nil rfl HLe.nil) rfl))
    · replace hr5 := iteF hr5 h12
      refine AB.skip ?_
      refine Ex.inBlock_mk ?_
      refine Ex.then_mk ?_
      refine AB.rw ?_
      refine wS (v := (eI .i64 vi_1)) (sv (d_move rfl)) ?_
      refine wS (v := (eI .i64 (IntKind.i64.wrap (vi_1 + 1)))) (sv (d_bin rfl rfl (bin_add ..))) ?_
      refine wS (v := (eI .i64 (IntKind.i64.wrap (vi_1 + 1)))) (sv (d_assign rfl)) ?_
      refine OpsW.nil ?_
      refine Ex.then_mk ?_
      exact ⟨IntKind.i64.wrap (vi_1 + 1), hr5, (Ghost.rn [] rfl rfl (FLe.same rfl (FLe.same rfl FLe.nil)) HLe.nil rfl)⟩
  · replace hr5 := iteF hr5 h10
    refine AB.exit ?_
    refine Ex.then_exit_mk ?_
    refine Ex.then_exit_mk ?_
    refine Ex.inBlock_same_mk ?_
    obtain rfl := Option.some.inj hr5
    refine Ex.then_mk ?_
    exact hG1 _ _ _ _ (Ghost.rn [] rfl rfl (FLe.same rfl FLe.nil) HLe.nil rfl) (J1 hr)
set_option maxRecDepth 20000 in
set_option maxHeartbeats 1000000 in
theorem ref27_Decode_ok (N : Nat) (vprefix : ByteArray) (vs : ByteArray) (r : (List Int) × Int) (hr : ref27_Decode N vprefix vs = some r) :
    Vm.Fn Tryd.prog 16 [] [(eS vprefix), (eS vs)] (.tup [(.sl 0 0 r.1.length 1 false), (eI .i64 r.2)]) [some ⟨5, r.1.map (eI .u8)⟩] := by
  refine fn_ab Tryd.func16 rfl (by kernel_rfl) Tryd.ntmps16 (Nat.le_of_ble_eq_true rfl) rfl (fr := [(0, (eS vprefix)), (1, (eS vs))]) rfl ?_
  unfold ref27_Decode at hr
  refine AB.seq ?_
  refine AB.rw ?_
  refine wS (v := (.row (some true) 1 [])) (sv (d_assign rfl)) ?_
  refine wS (v := (eI .i64 0)) (sv (d_assign rfl)) ?_
  refine OpsW.nil ?_
  refine Ex.then_mk ?_
  refine AB.seq ?_
  refine AB.seq ?_
  replace hr := bnd hr; obtain ⟨x16, h_1, hr⟩ := hr
  refine AB.rw ?_
  refine wS (v := (eS vprefix)) (sv (d_move rfl)) ?_
  refine wC (v := (eB x16)) (h' := []) rfl (Vm.Fn.pure (ref27_Prefix_ok N vprefix x16 h_1) rfl rfl) ?_
  refine wS (v := (eB (!x16))) (sv (d_un rfl (un_not _ _))) ?_
  refine OpsW.nil ?_
  refine Ex.then_mk ?_
  refine AB.cnd rfl (fun h2 => ?_) (fun h2 => ?_)
  · replace hr := iteT hr h2
    refine AB.seq ?_
    refine AB.rw ?_
    refine wS (v := (.row (some true) 1 [])) (sv (d_assign rfl)) ?_
    refine wS (v := (eI .i64 270)) (sv (d_assign rfl)) ?_
    refine OpsW.nil ?_
    refine Ex.then_mk ?_
    refine AB.ret ?_
    refine Ex.then_ret_mk ?_
    obtain rfl := Option.some.inj hr
    exact done_ret (r1 := (.tup [(.row (some true) 1 []), (eI .i64 270)])) (res2 Tryd.results16 (rvT rfl) (rvT rfl)) (Ghost.trans (Ghost.virt (fr' := [(0, (.tup [(.sl 0 0 0 1 false), (eI .i64 270)]))]) (h1 := []) 5 (FLe.le rfl (V.le_tup (V.les_cons (V.le_virt rfl) (V.les_cons (V.le_refl _ _) V.les_nil))) FLe.nil) HLv.nil) (Ghost.rn [0] rfl rfl (FLe.le rfl (V.le_tup (V.les_cons (by first | exact V.le_refl _ _ | (simp only [len_set, len_cpy]; exact V.le_refl _ _)) (V.les_cons (V.le_refl _ _) V.les_nil))) FLe.nil) (HLe.live rfl V.les_nil rfl HLe.nil) rfl))
  · replace hr := iteF hr h2
    refine AB.skip ?_
    refine Ex.then_mk ?_
    refine AB.seq ?_
    refine AB.seq ?_
    refine AB.rw ?_
    refine wS (v := (eS vs)) (sv (d_move rfl)) ?_
    refine wS (v := (eI .i64 (vs.size : Int))) (sv (d_len rfl (lenT ti9))) ?_
    refine wS (v := (eS vprefix)) (sv (d_move rfl)) ?_
    refine wS (v := (eI .i64 (vprefix.size : Int))) (sv (d_len rfl (lenT ti9))) ?_
    refine wS (v := (eI .i64 (IntKind.i64.wrap ((vprefix.size : Int) + 167)))) (sv (d_bin rfl rfl (bin_add ..))) ?_
    refine wS (v := (eB (decide ((IntKind.i64.wrap ((vprefix.size : Int) + 167)) < (vs.size : Int))))) (sv (d_bin rfl rfl (bin_gtr ..))) ?_
    refine OpsW.nil ?_
    refine Ex.then_mk ?_
    refine AB.cnd rfl (fun h3 => ?_) (fun h3 => ?_)
    · replace hr := iteT hr h3
      refine AB.seq ?_
      refine AB.rw ?_
      refine wS (v := (.row (some true) 1 [])) (sv (d_assign rfl)) ?_
      refine wS (v := (eI .i64 4)) (sv (d_assign rfl)) ?_
      refine OpsW.nil ?_
      refine Ex.then_mk ?_
      refine AB.ret ?_
      refine Ex.then_ret_mk ?_
      obtain rfl := Option.some.inj hr
      exact done_ret (r1 := (.tup [(.row (some true) 1 []), (eI .i64 4)])) (res2 Tryd.results16 (rvT rfl) (rvT rfl)) (Ghost.trans (Ghost.virt (fr' := [(0, (.tup [(.sl 0 0 0 1 false), (eI .i64 4)]))]) (h1 := []) 5 (FLe.le rfl (V.le_tup (V.les_cons (V.le_virt rfl) (V.les_cons (V.le_refl _ _) V.les_nil))) FLe.nil) HLv.nil) (Ghost.rn [0] rfl rfl (FLe.le rfl (V.le_tup (V.les_cons (by first | exact V.le_refl _ _ | (simp only [len_set, len_cpy]; exact V.le_refl _ _)) (V.les_cons (V.le_refl _ _) V.les_nil))) FLe.nil) (HLe.live rfl V.les_nil rfl HLe.nil) rfl))
    · replace hr := iteF hr h3
      refine AB.skip ?_
      refine Ex.then_mk ?_
      refine AB.seq ?_
      replace hr := bnd hr; obtain ⟨x26, h_4, hr⟩ := hr
      refine AB.rw ?_
      refine wS (v := (eS vs)) (sv (d_move rfl)) ?_
      refine wC (v := (.tup [(eS x26.1), (eB x26.2)])) (h' := []) rfl (Vm.Fn.pure (ref27_small_ok N vs x26 h_4) rfl rfl) ?_
      refine wS (v := (.tup [(eS x26.1), (eB x26.2)])) (sv (d_move rfl)) ?_
      refine wS (v := (eS x26.1)) (sv (d_ext rfl rfl)) ?_
      refine wS (v := (eB x26.2)) (sv (d_ext rfl rfl)) ?_
      refine wS (v := (eS x26.1)) (sv (d_assign rfl)) ?_
      refine wS (v := (eB x26.2)) (sv (d_assign rfl)) ?_
      refine OpsW.nil ?_
      refine Ex.then_mk ?_
      refine AB.seq ?_
      refine AB.seq ?_
      refine AB.rw ?_
      refine wS (v := (eB x26.2)) (sv (d_move rfl)) ?_
      refine OpsW.nil ?_
      refine Ex.then_mk ?_
      refine AB.cnd rfl (fun h5 => ?_) (fun h5 => ?_)
      · replace hr := iteT hr h5
        refine AB.seq ?_
        refine AB.rw ?_
        refine wS (v := (.row (some true) 1 [])) (sv (d_assign rfl)) ?_
        refine wS (v := (eI .i64 271)) (sv (d_assign rfl)) ?_
        refine OpsW.nil ?_
        refine Ex.then_mk ?_
        refine AB.ret ?_
        refine Ex.then_ret_mk ?_
        obtain rfl := Option.some.inj hr
        exact done_ret (r1 := (.tup [(.row (some true) 1 []), (eI .i64 271)])) (res2 Tryd.results16 (rvT rfl) (rvT rfl)) (Ghost.trans (Ghost.virt (fr' := [(0, (.tup [(.sl 0 0 0 1 false), (eI .i64 271)]))]) (h1 := []) 5 (FLe.le rfl (V.le_tup (V.les_cons (V.le_virt rfl) (V.les_cons (V.le_refl _ _) V.les_nil))) FLe.nil) HLv.nil) (Ghost.rn [0] rfl rfl (FLe.le rfl (V.le_tup (V.les_cons (by first | exact V.le_refl _ _ | (simp only [len_set, len_cpy]; exact V.le_refl _ _)) (V.les_cons (V.le_refl _ _) V.les_nil))) FLe.nil) (HLe.live rfl V.les_nil rfl HLe.nil) rfl))
      · replace hr := iteF hr h5
        refine AB.skip ?_
        refine Ex.then_mk ?_
        refine AB.seq ?_
        refine AB.rw ?_
        refine wS (v := (eS vprefix)) (sv (d_move rfl)) ?_
        refine wS (v := (eI .i64 (vprefix.size : Int))) (sv (d_len rfl (lenT ti9))) ?_
        refine wS (v := (eI .i64 (IntKind.i64.wrap ((vprefix.size : Int) + 1)))) (sv (d_bin rfl rfl (bin_add ..))) ?_
        refine wS (v := (eI .i64 (IntKind.i64.wrap ((vprefix.size : Int) + 1)))) (sv (d_assign rfl)) ?_
        refine OpsW.nil ?_
        refine Ex.then_mk ?_
        refine AB.seq ?_
        refine AB.seq_g fun K1 hK1 hG1 => ?_
        have J1 : ∀ (x44 : Bool), ref27_Decode_J1 N vprefix x26 x44 = some r → K1 (mkF 96 [(0, (eS vprefix)), (6, (eS x26.1)), (8, (eI .i64 (IntKind.i64.wrap ((vprefix.size : Int) + 1)))), (44, (eB x44))]) [] := by
          intro x44 hr
          unfold ref27_Decode_J1 at hr
          refine hK1 _ _ ?_
          refine AB.cnd rfl (fun h6 => ?_) (fun h6 => ?_)
          · replace hr := iteT hr h6
            refine AB.seq ?_
            refine AB.rw ?_
            refine wS (v := (.row (some true) 1 [])) (sv (d_assign rfl)) ?_
            refine wS (v := (eI .i64 270)) (sv (d_assign rfl)) ?_
            refine OpsW.nil ?_
            refine Ex.then_mk ?_
            refine AB.ret ?_
            refine Ex.then_ret_mk ?_
            obtain rfl := Option.some.inj hr
            exact done_ret (r1 := (.tup [(.row (some true) 1 []), (eI .i64 270)])) (res2 Tryd.results16 (rvT rfl) (rvT rfl)) (Ghost.trans (Ghost.virt (fr' := [(0, (.tup [(.sl 0 0 0 1 false), (eI .i64 270)]))]) (h1 := []) 5 (FLe.le rfl (V.le_tup (V.les_cons (V.le_virt rfl) (V.les_cons (V.le_refl _ _) V.les_nil))) FLe.nil) HLv.nil) (Ghost.rn [0] rfl rfl (FLe.le rfl (V.le_tup (V.les_cons (by first | exact V.le_refl _ _ | (simp only [len_set, len_cpy]; exact V.le_refl _ _)) (V.les_cons (V.le_refl _ _) V.les_nil))) FLe.nil) (HLe.live rfl V.les_nil rfl HLe.nil) rfl))
          · replace hr := iteF hr h6
            refine AB.skip ?_
            refine Ex.then_mk ?_
            refine AB.seq ?_
            refine AB.seq ?_
            refine AB.rw ?_
            refine wS (v := (eS x26.1)) (sv (d_move rfl)) ?_
            refine wS (v := (eI .i64 (x26.1.size : Int))) (sv (d_len rfl (lenT ti9))) ?_
            refine wS (v := (eI .i64 (IntKind.i64.wrap ((vprefix.size : Int) + 1)))) (sv (d_move rfl)) ?_
            refine wS (v := (eI .i64 (IntKind.i64.wrap ((x26.1.size : Int) - (IntKind.i64.wrap ((vprefix.size : Int) + 1)))))) (sv (d_bin rfl rfl (bin_sub ..))) ?_
            refine wS (v := (eB (decide ((IntKind.i64.wrap ((x26.1.size : Int) - (IntKind.i64.wrap ((vprefix.size : Int) + 1)))) < 6)))) (sv (d_bin rfl rfl (bin_lss ..))) ?_
            refine OpsW.nil ?_
            refine Ex.then_mk ?_
            refine AB.cnd rfl (fun h7 => ?_) (fun h7 => ?_)
            · replace hr := iteT hr h7
              refine AB.seq ?_
              refine AB.rw ?_
              refine wS (v := (.row (some true) 1 [])) (sv (d_assign rfl)) ?_
              refine wS (v := (eI .i64 1)) (sv (d_assign rfl)) ?_
              refine OpsW.nil ?_
              refine Ex.then_mk ?_
              refine AB.ret ?_
              refine Ex.then_ret_mk ?_
              obtain rfl := Option.some.inj hr
              exact done_ret (r1 := (.tup [(.row (some true) 1 []), (eI .i64 1)])) (res2 Tryd.results16 (rvT rfl) (rvT rfl)) (Ghost.trans (Ghost.virt (fr' := [(0, (.tup [(.sl 0 0 0 1 false), (eI .i64 1)]))]) (h1 := []) 5 (FLe.le rfl (V.le_tup (V.les_cons (V.le_virt rfl) (V.les_cons (V.le_refl _ _) V.les_nil))) FLe.nil) HLv.nil) (Ghost.rn [0] rfl rfl (FLe.le rfl (V.le_tup (V.les_cons (by first | exact V.le_refl _ _ | (simp only [len_set, len_cpy]; exact V.le_refl _ _)) (V.les_cons (V.le_refl _ _) V.les_nil))) FLe.nil) (HLe.live rfl V.les_nil rfl HLe.nil) rfl))
            · replace hr := iteF hr h7
              refine AB.skip ?_
              refine Ex.then_mk ?_
              refine AB.seq ?_
              refine AB.rw ?_
              refine wS (v := (.row (some true) 1 [])) (sv (d_assign rfl)) ?_
              refine OpsW.nil ?_
              refine Ex.then_mk ?_
              refine AB.seq_g fun K2 hK2 hG2 => ?_
              have J2 : ∀ (l0 : List Int), ref27_Decode_J2 N vprefix l0 = some r → K2 (mkF 96 [(0, (eS vprefix)), (9, (.sl 0 0 l0.length 1 false))]) [some ⟨5, l0.map (eI .u8)⟩] := by
                intro l0 hr
                unfold ref27_Decode_J2 at hr
                refine hK2 _ _ ?_
                refine AB.seq ?_
                refine AB.rw ?_
                refine wS (v := (.sl 0 0 l0.length 1 false)) (sv (d_move rfl)) ?_
                refine wS (v := (eI .i64 (l0.length : Int))) (sv (d_len rfl (lenS ti22))) ?_
                refine wS (v := (eI .i64 (IntKind.i64.wrap ((l0.length : Int) - 6)))) (sv (d_bin rfl rfl (bin_sub ..))) ?_
                refine wS (v := (eI .i64 (IntKind.i64.wrap ((l0.length : Int) - 6)))) (sv (d_assign rfl)) ?_
                refine OpsW.nil ?_
                refine Ex.then_mk ?_
                refine AB.seq ?_
                replace hr := bnd hr; obtain ⟨x74, h_8, hr⟩ := hr
                replace hr := bnd hr; obtain ⟨x75, h_9, hr⟩ := hr
                replace hr := bnd hr; obtain ⟨q, h_10, hr⟩ := hr
                refine AB.rw ?_
                refine wS (v := (eS vprefix)) (sv (d_move rfl)) ?_
                refine wS (v := (.sl 0 0 l0.length 1 false)) (sv (d_move rfl)) ?_
                refine wS (v := (eI .i64 (IntKind.i64.wrap ((l0.length : Int) - 6)))) (sv (d_move rfl)) ?_
                refine OpsW.ghost (Ghost.conv (fr' := [(0, (eS vprefix)), (9, (.row none 1 (l0.map (eI .u8)))), (12, (eI .i64 (IntKind.i64.wrap ((l0.length : Int) - 6)))), (68, (.row none 1 (l0.map (eI .u8)))), (69, (eI .i64 (l0.length : Int))), (70, (eI .i64 (IntKind.i64.wrap ((l0.length : Int) - 6)))), (71, (eS vprefix)), (72, (.row none 1 (l0.map (eI .u8)))), (73, (eI .i64 (IntKind.i64.wrap ((l0.length : Int) - 6))))]) (h' := [none]) (FCv.cons rfl (Conv.same (subB_sub rfl)) (FCv.cons rfl (Conv.row (subB_sub rfl) rfl rfl (all_mapE (fun _ => rfl)) (by first | rfl | simp only [List.length_map, len_set, len_cpy])) (FCv.cons rfl (Conv.same (subB_sub rfl)) (FCv.cons rfl (Conv.row (subB_sub rfl) rfl rfl (all_mapE (fun _ => rfl)) (by first | rfl | simp only [List.length_map, len_set, len_cpy])) (FCv.cons rfl (Conv.same (subB_sub rfl)) (FCv.cons rfl (Conv.same (subB_sub rfl)) (FCv.cons rfl (Conv.same (subB_sub rfl)) (FCv.cons rfl (Conv.row (subB_sub rfl) rfl rfl (all_mapE (fun _ => rfl)) (by first | rfl | simp only [List.length_map, len_set, len_cpy])) (FCv.cons rfl (Conv.same (subB_sub rfl)) FCv.nil))))))))) (HCv.dead HCv.nil)) ?_
                refine wS (v := (.row none 1 (x74.map (eI .u8)))) (sv (d_slice rfl rfl rfl (slR ti22 ti5 rfl rfl h_8))) ?_
                refine wC (v := (.agg (x75.map (eI .u8)))) (h' := [none]) rfl (Vm.Fn.pure (ref27_Checksum_ok N vprefix x74 x75 h_9) rfl (by simp only [V.rn, V.rns, rns_eI, rns_eB])) ?_
                refine wS (v := (.ptr 1 0)) (h' := [none, some ⟨24, (List.replicate 6 0).map (eI .u8)⟩]) (sv (d_alloc ti24 rfl rfl rfl)) ?_
                refine wN (h' := [none, some ⟨24, x75.map (eI .u8)⟩]) (sv (d_store rfl rfl (stA (E := (eI .u8)) (l := List.replicate 6 0) ti24 rfl rfl (fun _ => rfl) rfl (arr_len h_10) rfl))) ?_
                refine OpsW.nil ?_
                refine Ex.then_mk ?_
                refine AB.seq_g fun K3 hK3 hG3 => ?_
                have J3 : ref27_Decode_J3 N l0 = some r → K3 (mkF 96 [(9, (.row none 1 (l0.map (eI .u8)))), (12, (eI .i64 (IntKind.i64.wrap ((l0.length : Int) - 6))))]) [] := by
                  intro hr
                  unfold ref27_Decode_J3 at hr
                  refine hK3 _ _ ?_
                  refine AB.seq ?_
                  replace hr := bnd hr; obtain ⟨x92, h_11, hr⟩ := hr
                  replace hr := bnd hr; obtain ⟨x93, h_12, hr⟩ := hr
                  refine AB.rw ?_
                  refine wS (v := (.row none 1 (l0.map (eI .u8)))) (sv (d_move rfl)) ?_
                  refine wS (v := (eI .i64 (IntKind.i64.wrap ((l0.length : Int) - 6)))) (sv (d_move rfl)) ?_
                  refine wS (v := (.row none 1 (x92.map (eI .u8)))) (sv (d_slice rfl rfl rfl (slR ti22 ti5 rfl rfl h_11))) ?_
                  refine wC (v := (.tup [(.sl 0 0 x93.1.length 1 false), (eI .i64 x93.2)])) (h' := [some ⟨5, x93.1.map (eI .u8)⟩]) rfl (Vm.Fn.lendB (ref27_Back_ok N x92 x93 h_12) [] (by decide) rfl Lend.nil rfl rfl (by simp only [lent, lendSet, lendSet_nil, rnH, Blk.rn, V.rns, V.rn, sg, List.map_cons, List.map_nil, Option.map_some, Option.map_none, List.drop_succ_cons, List.drop_zero, List.drop_nil, List.set_cons_zero, List.set_cons_succ, List.cons_append, List.nil_append, List.append_nil, rns_eI, rns_eB, rns_eS, rns_eL, List.getElem?_cons_zero, List.getElem?_cons_succ, List.getElem?_nil, List.length_cons, List.length_nil, Nat.reduceAdd, Nat.reduceSub, Nat.add_zero, Nat.zero_add, Nat.sub_self, Nat.sub_zero])) ?_
                  refine wS (v := (.sl 0 0 x93.1.length 1 false)) (sv (d_ext rfl rfl)) ?_
                  refine wS (v := (eI .i64 x93.2)) (sv (d_ext rfl rfl)) ?_
                  refine wS (v := (.sl 0 0 x93.1.length 1 false)) (sv (d_assign rfl)) ?_
                  refine wS (v := (eI .i64 x93.2)) (sv (d_assign rfl)) ?_
                  refine OpsW.nil ?_
                  refine Ex.then_mk ?_
                  refine AB.ret ?_
                  obtain rfl := Option.some.inj hr
                  exact done_ret (r1 := (.tup [(.sl 0 0 x93.1.length 1 false), (eI .i64 x93.2)])) (res2 Tryd.results16 (rvT rfl) (rvT rfl)) (Ghost.rn [0] rfl rfl (FLe.same rfl FLe.nil) (HLe.live rfl (les_map (fun _ => rfl) _) (all_map (fun _ => rfl) _) HLe.nil) rfl)
                refine AB.seq ?_
                refine AB.rw ?_
                refine wS (v := (eI .i64 0)) (sv (d_assign rfl)) ?_
                refine OpsW.nil ?_
                refine Ex.then_mk ?_
                replace hr := bnd hr; obtain ⟨res4, hL4, hr⟩ := hr
                refine AB.block ?_
                refine AB.loopN (fun m s h => ∃ (vi : Int), ref27_Decode_L4 N l0 x75 m vi = some res4 ∧ Ghost 0 s h (mkF 96 [(9, (.row none 1 (l0.map (eI .u8)))), (12, (eI .i64 (IntKind.i64.wrap ((l0.length : Int) - 6)))), (13, (.ptr 0 0)), (14, (eI .i64 vi))]) [some ⟨24, x75.map (eI .u8)⟩]) (n := N) ⟨0, hL4, (Ghost.rn [1] rfl rfl (FLe.same rfl (FLe.same rfl (FLe.same rfl (FLe.same rfl FLe.nil)))) (HLe.live rfl (les_map (fun _ => rfl) _) (all_map (fun _ => rfl) _) HLe.nil) rfl)⟩ (by rintro s h ⟨_, h0, _⟩; simp [ref27_Decode_L4] at h0) ?_
                rintro m4 s h ⟨vi, hr4, hg⟩
                refine AB.ghost hg ?_
                clear hg hL4
                rw [ref27_Decode_L4] at hr4
                refine AB.seq ?_
                refine AB.seq ?_
                refine AB.rw ?_
                refine wS (v := (eI .i64 vi)) (sv (d_move rfl)) ?_
                refine wS (v := (eB (decide (vi < 6)))) (sv (d_bin rfl rfl (bin_lss ..))) ?_
                refine OpsW.nil ?_
                refine Ex.then_mk ?_
                refine AB.cnd rfl (fun h13 => ?_) (fun h13 => ?_)
                · replace hr4 := iteT hr4 h13
                  refine AB.skip ?_
                  refine Ex.then_mk ?_
                  refine AB.seq ?_
                  refine AB.block ?_
                  refine AB.seq ?_
                  replace hr4 := bnd hr4; obtain ⟨x81, h_14, hr4⟩ := hr4
                  replace hr4 := bnd hr4; obtain ⟨x87, h_15, hr4⟩ := hr4
                  refine AB.rg E0 (fun _ => by show drawOk (fun _ => false) _ = true; decide +kernel) ?_
                  refine tS (v := (eI .i64 vi)) (sv (d_move rfl)) ?_
                  refine tS (v := (.ptr 0 (Int.toNat vi))) (sv (d_ia rfl rfl (iaB ti24 ti5 rfl h_14))) ?_
                  refine tS (v := (eI .u8 x81)) (sv (d_load rfl (ldX (E := (eI .u8)) (y := x81) ti5 rfl rfl (aix_idx h_14)))) ?_
                  refine tS (v := (.row none 1 (l0.map (eI .u8)))) (sv (d_move rfl)) ?_
                  refine tS (v := (eI .i64 (IntKind.i64.wrap ((l0.length : Int) - 6)))) (sv (d_move rfl)) ?_
                  refine tS (v := (eI .i64 vi)) (sv (d_move rfl)) ?_
                  refine tS (v := (eI .i64 (IntKind.i64.wrap ((IntKind.i64.wrap ((l0.length : Int) - 6)) + vi)))) (sv (d_bin rfl rfl (bin_add ..))) ?_
                  refine tS (sv (d_ia rfl rfl (iaR ti22 ti5 h_15))) ?_
                  refine tS (v := (eI .u8 x87)) (sv (d_load rfl (ldR h_15 (part1 ti5 rfl rfl)))) ?_
                  refine tS (v := (eB (x81 != x87))) (sv (d_bin rfl rfl (bin_neq ..))) ?_
                  refine OpsTo.nil ?_
                  refine Ex.then_mk ?_
                  refine AB.cnd rfl (fun h16 => ?_) (fun h16 => ?_)
                  · replace hr4 := iteT hr4 h16
                    refine AB.seq ?_
                    refine AB.rw ?_
                    refine wS (v := (.row (some true) 1 [])) (sv (d_assign rfl)) ?_
                    refine wS (v := (eI .i64 241)) (sv (d_assign rfl)) ?_
                    refine OpsW.nil ?_
                    refine Ex.then_mk ?_
                    refine AB.ret ?_
                    refine Ex.inBlock_ret_mk ?_
                    refine Ex.then_ret_mk ?_
                    refine Ex.then_ret_mk ?_
                    refine Ex.inBlock_ret_mk ?_
                    refine Ex.then_ret_mk ?_
                    obtain rfl := Option.some.inj hr4
                    obtain rfl := Option.some.inj hr
                    exact done_ret (r1 := (.tup [(.row (some true) 1 []), (eI .i64 241)])) (res2 Tryd.results16 (rvT rfl) (rvT rfl)) (Ghost.trans (Ghost.virt (fr' := [(0, (.tup [(.sl 1 0 0 1 false), (eI .i64 241)]))]) (h1 := [some ⟨24, x75.map (eI .u8)⟩]) 5 (FLe.le rfl (V.le_tup (V.les_cons (V.le_virt rfl) (V.les_cons (V.le_refl _ _) V.les_nil))) FLe.nil) (HLv.live (V.les_refl _ _) (all_map (fun _ => rfl) _) HLv.nil)) (Ghost.rn [1] rfl rfl (FLe.le rfl (V.le_tup (V.les_cons (by first | exact V.le_refl _ _ | (simp only [len_set, len_cpy]; exact V.le_refl _ _)) (V.les_cons (V.le_refl _ _) V.les_nil))) FLe.nil) (HLe.live rfl V.les_nil rfl HLe.nil) rfl))
                  · replace hr4 := iteF hr4 h16
                    refine AB.skip ?_
                    refine Ex.inBlock_mk ?_
                    refine Ex.then_mk ?_
                    refine AB.rw ?_
                    refine wS (v := (eI .i64 vi)) (sv (d_move rfl)) ?_
                    refine wS (v := (eI .i64 (IntKind.i64.wrap (vi + 1)))) (sv (d_bin rfl rfl (bin_add ..))) ?_
                    refine wS (v := (eI .i64 (IntKind.i64.wrap (vi + 1)))) (sv (d_assign rfl)) ?_
                    refine OpsW.nil ?_
                    refine Ex.then_mk ?_
                    exact ⟨IntKind.i64.wrap (vi + 1), hr4, (Ghost.rn [0] rfl rfl (FLe.same rfl (FLe.same rfl (FLe.same rfl (FLe.same rfl FLe.nil)))) (HLe.live rfl (les_map (fun _ => rfl) _) (all_map (fun _ => rfl) _) HLe.nil) rfl)⟩
                · replace hr4 := iteF hr4 h13
                  refine AB.exit ?_
                  refine Ex.then_exit_mk ?_
                  refine Ex.then_exit_mk ?_
                  refine Ex.inBlock_same_mk ?_
                  obtain rfl := Option.some.inj hr4
                  refine Ex.then_mk ?_
                  exact hG3 _ _ _ _ (Ghost.rn [] rfl rfl (FLe.same rfl (FLe.same rfl FLe.nil)) HLe.nil rfl) (J3 hr)
              refine AB.seq ?_
              refine AB.rw ?_
              refine wS (v := (eI .i64 (IntKind.i64.wrap ((vprefix.size : Int) + 1)))) (sv (d_move rfl)) ?_
              refine wS (v := (eI .i64 (IntKind.i64.wrap ((vprefix.size : Int) + 1)))) (sv (d_assign rfl)) ?_
              refine OpsW.nil ?_
              refine Ex.then_mk ?_
              replace hr := bnd hr; obtain ⟨res5, hL5, hr⟩ := hr
              refine AB.block ?_
              refine AB.loopN (fun m s h => ∃ (vi_1 : Int) (l0_1 : List Int), ref27_Decode_L5 N vprefix x26 m vi_1 l0_1 = some res5 ∧ Ghost 0 s h (mkF 96 [(0, (eS vprefix)), (6, (eS x26.1)), (9, (.sl 0 0 l0_1.length 1 false)), (10, (eI .i64 vi_1))]) [some ⟨5, l0_1.map (eI .u8)⟩]) (n := N) ⟨IntKind.i64.wrap ((vprefix.size : Int) + 1), [], hL5, (Ghost.trans (Ghost.virt (fr' := [(0, (eS vprefix)), (6, (eS x26.1)), (9, (.sl 0 0 0 1 false)), (10, (eI .i64 (IntKind.i64.wrap ((vprefix.size : Int) + 1))))]) (h1 := []) 5 (FLe.same rfl (FLe.same rfl (FLe.le rfl (V.le_virt rfl) (FLe.same rfl FLe.nil)))) HLv.nil) (Ghost.rn [0] rfl rfl (FLe.same rfl (FLe.same rfl (FLe.le rfl (by first | exact V.le_refl _ _ | (simp only [len_set, len_cpy]; exact V.le_refl _ _)) (FLe.same rfl FLe.nil)))) (HLe.live rfl V.les_nil rfl HLe.nil) rfl))⟩ (by rintro s h ⟨_, _, h0, _⟩; simp [ref27_Decode_L5] at h0) ?_
              rintro m5 s h ⟨vi_1, l0_1, hr5, hg⟩
              refine AB.ghost hg ?_
              clear hg hL5
              rw [ref27_Decode_L5] at hr5
              refine AB.seq ?_
              refine AB.seq ?_
              refine AB.rw ?_
              refine wS (v := (eI .i64 vi_1)) (sv (d_move rfl)) ?_
              refine wS (v := (eS x26.1)) (sv (d_move rfl)) ?_
              refine wS (v := (eI .i64 (x26.1.size : Int))) (sv (d_len rfl (lenT ti9))) ?_
              refine wS (v := (eB (decide (vi_1 < (x26.1.size : Int))))) (sv (d_bin rfl rfl (bin_lss ..))) ?_
              refine OpsW.nil ?_
              refine Ex.then_mk ?_
              refine AB.cnd rfl (fun h17 => ?_) (fun h17 => ?_)
              · replace hr5 := iteT hr5 h17
                refine AB.skip ?_
                refine Ex.then_mk ?_
                refine AB.seq ?_
                refine AB.block ?_
                refine AB.seq ?_
                replace hr5 := bnd hr5; obtain ⟨x59, h_18, hr5⟩ := hr5
                replace hr5 := bnd hr5; obtain ⟨x60, h_19, hr5⟩ := hr5
                refine AB.rw ?_
                refine wS (v := (eS x26.1)) (sv (d_move rfl)) ?_
                refine wS (v := (eI .i64 vi_1)) (sv (d_move rfl)) ?_
                refine wS (v := (eI .u8 x59)) (sv (d_ix rfl rfl (ixT ti9 h_18))) ?_
                refine wC (v := (eI .i64 x60)) (h' := [some ⟨5, l0_1.map (eI .u8)⟩]) rfl (Vm.Fn.pure (ref27_digit_ok N x59 x60 h_19) rfl rfl) ?_
                refine wS (v := (eI .i64 x60)) (sv (d_assign rfl)) ?_
                refine OpsW.nil ?_
                refine Ex.then_mk ?_
                refine AB.seq ?_
                refine AB.seq ?_
                refine AB.rw ?_
                refine wS (v := (eI .i64 x60)) (sv (d_move rfl)) ?_
                refine wS (v := (eB (decide (x60 < 0)))) (sv (d_bin rfl rfl (bin_lss ..))) ?_
                refine OpsW.nil ?_
                refine Ex.then_mk ?_
                refine AB.cnd rfl (fun h20 => ?_) (fun h20 => ?_)
                · replace hr5 := iteT hr5 h20
                  refine AB.seq ?_
                  refine AB.rw ?_
                  refine wS (v := (.row (some true) 1 [])) (sv (d_assign rfl)) ?_
                  refine wS (v := (eI .i64 7)) (sv (d_assign rfl)) ?_
                  refine OpsW.nil ?_
                  refine Ex.then_mk ?_
                  refine AB.ret ?_
                  refine Ex.then_ret_mk ?_
                  refine Ex.inBlock_ret_mk ?_
                  refine Ex.then_ret_mk ?_
                  refine Ex.then_ret_mk ?_
                  refine Ex.inBlock_ret_mk ?_
                  refine Ex.then_ret_mk ?_
                  obtain rfl := Option.some.inj hr5
                  obtain rfl := Option.some.inj hr
                  exact done_ret (r1 := (.tup [(.row (some true) 1 []), (eI .i64 7)])) (res2 Tryd.results16 (rvT rfl) (rvT rfl)) (Ghost.trans (Ghost.virt (fr' := [(0, (.tup [(.sl 1 0 0 1 false), (eI .i64 7)]))]) (h1 := [some ⟨5, l0_1.map (eI .u8)⟩]) 5 (FLe.le rfl (V.le_tup (V.les_cons (V.le_virt rfl) (V.les_cons (V.le_refl _ _) V.les_nil))) FLe.nil) (HLv.live (V.les_refl _ _) (all_map (fun _ => rfl) _) HLv.nil)) (Ghost.rn [1] rfl rfl (FLe.le rfl (V.le_tup (V.les_cons (by first | exact V.le_refl _ _ | (simp only [len_set, len_cpy]; exact V.le_refl _ _)) (V.les_cons (V.le_refl _ _) V.les_nil))) FLe.nil) (HLe.live rfl V.les_nil rfl HLe.nil) rfl))
                · replace hr5 := iteF hr5 h20
                  refine AB.skip ?_
                  refine Ex.then_mk ?_
                  replace hr5 := bnd hr5; obtain ⟨x67, h_21, hr5⟩ := hr5
                  refine AB.rw ?_
                  refine wS (v := (.sl 0 0 l0_1.length 1 false)) (sv (d_move rfl)) ?_
                  refine wS (v := (eI .i64 x60)) (sv (d_move rfl)) ?_
                  refine wS (v := (eI .u8 (IntKind.u8.wrap x60))) (sv (d_conv rfl (conv_int _ ⟨_, ti3⟩ ti5 rfl))) ?_
                  refine wS (v := (.sl 1 0 1 1 false)) (h' := [some ⟨5, l0_1.map (eI .u8)⟩, some ⟨5, [IntKind.u8.wrap x60].map (eI .u8)⟩]) (sv (d_buildS rfl (bldL1 (xs := [IntKind.u8.wrap x60].map (eI .u8)) ti22 ti5 (Nat.le_of_ble_eq_true rfl) (Nat.le_of_ble_eq_true rfl) rfl rfl rfl rfl rfl rfl rfl))) ?_
                  refine wS (v := (.sl 2 0 x67.length 1 false)) (h' := [none, some ⟨5, [IntKind.u8.wrap x60].map (eI .u8)⟩, some ⟨5, x67.map (eI .u8)⟩]) (sv (d_append rfl rfl (appS (E := (eI .u8)) rfl ti22 ti5 ⟨rfl, rfl, Nat.le_of_ble_eq_true rfl⟩ rfl (srcS rfl rfl) h_21 rfl rfl))) ?_
                  refine wS (v := (.sl 2 0 x67.length 1 false)) (sv (d_assign rfl)) ?_
                  refine OpsW.nil ?_
                  refine Ex.inBlock_mk ?_
                  refine Ex.then_mk ?_
                  refine AB.rw ?_
                  refine wS (v := (eI .i64 vi_1)) (sv (d_move rfl)) ?_
                  refine wS (v := (eI .i64 (IntKind.i64.wrap (vi_1 + 1)))) (sv (d_bin rfl rfl (bin_add ..))) ?_
                  refine wS (v := (eI .i64 (IntKind.i64.wrap (vi_1 + 1)))) (sv (d_assign rfl)) ?_
                  refine OpsW.nil ?_
                  refine Ex.then_mk ?_
                  exact ⟨IntKind.i64.wrap (vi_1 + 1), x67, hr5, (Ghost.rn [2] rfl rfl (FLe.same rfl (FLe.same rfl (FLe.same rfl (FLe.same rfl FLe.nil)))) (HLe.live rfl (les_map (fun _ => rfl) _) (all_map (fun _ => rfl) _) HLe.nil) rfl)⟩
              · replace hr5 := iteF hr5 h17
                refine AB.exit ?_
                refine Ex.then_exit_mk ?_
                refine Ex.then_exit_mk ?_
                refine Ex.inBlock_same_mk ?_
                obtain rfl := Option.some.inj hr5
                refine Ex.then_mk ?_
                exact hG2 _ _ _ _ (Ghost.rn [0] rfl rfl (FLe.same rfl (FLe.same rfl FLe.nil)) (HLe.live rfl (les_map (fun _ => rfl) _) (all_map (fun _ => rfl) _) HLe.nil) rfl) (J2 l0_1 hr)
        rcases Bool.eq_false_or_eq_true (decide ((x26.1.size : Int) < (IntKind.i64.wrap ((vprefix.size : Int) + 1)))) with h22 | h22
        · replace hr := iteT hr h22
          refine AB.rw ?_
          refine wS (v := (eS x26.1)) (sv (d_move rfl)) ?_
          refine wS (v := (eI .i64 (x26.1.size : Int))) (sv (d_len rfl (lenT ti9))) ?_
          refine wS (v := (eI .i64 (IntKind.i64.wrap ((vprefix.size : Int) + 1)))) (sv (d_move rfl)) ?_
          refine wS (v := (eB (decide ((x26.1.size : Int) < (IntKind.i64.wrap ((vprefix.size : Int) + 1)))))) (sv (d_bin rfl rfl (bin_lss ..))) ?_
          refine wS (v := (eB (decide ((x26.1.size : Int) < (IntKind.i64.wrap ((vprefix.size : Int) + 1)))))) (sv (d_move rfl)) ?_
          refine wS (svX rfl rfl h22) ?_
          refine wS (svX rfl rfl h22) ?_
          refine wS (svX rfl rfl h22) ?_
          refine wS (svX rfl rfl h22) ?_
          refine wS (svX rfl rfl h22) ?_
          refine wS (svX rfl rfl h22) ?_
          refine wS (v := (eB true)) (sv (d_pickT rfl h22 rfl)) ?_
          refine OpsW.nil ?_
          refine Ex.then_mk ?_
          exact hG1 _ _ _ _ (Ghost.rn [] rfl rfl (FLe.same rfl (FLe.same rfl (FLe.same rfl (FLe.same rfl FLe.nil)))) HLe.nil rfl) (J1 true hr)
        · replace hr := iteF hr h22
          replace hr := bnd hr; obtain ⟨x40, h_23, hr⟩ := hr
          replace hr := bnd hr; obtain ⟨x42, h_24, hr⟩ := hr
          refine AB.rw ?_
          refine wS (v := (eS x26.1)) (sv (d_move rfl)) ?_
          refine wS (v := (eI .i64 (x26.1.size : Int))) (sv (d_len rfl (lenT ti9))) ?_
          refine wS (v := (eI .i64 (IntKind.i64.wrap ((vprefix.size : Int) + 1)))) (sv (d_move rfl)) ?_
          refine wS (v := (eB (decide ((x26.1.size : Int) < (IntKind.i64.wrap ((vprefix.size : Int) + 1)))))) (sv (d_bin rfl rfl (bin_lss ..))) ?_
          refine wS (v := (eB (decide ((x26.1.size : Int) < (IntKind.i64.wrap ((vprefix.size : Int) + 1)))))) (sv (d_move rfl)) ?_
          refine wS (v := (eS x26.1)) (svG rfl rfl h22 (d_move rfl)) ?_
          refine wS (v := (eI .i64 (IntKind.i64.wrap ((vprefix.size : Int) + 1)))) (svG rfl rfl h22 (d_move rfl)) ?_
          refine wS (v := (eS x40)) (svG rfl rfl h22 (d_slice rfl rfl rfl (slT ti9 rfl rfl h_23))) ?_
          refine wS (v := (eS vprefix)) (svG rfl rfl h22 (d_move rfl)) ?_
          refine wS (v := (eS x42)) (svG rfl rfl h22 (d_bin rfl rfl (bin_cat _ _ _ h_24))) ?_
          refine wS (v := (eB (!(x40.toList == x42.toList)))) (svG rfl rfl h22 (d_bin rfl rfl (bin_neqS ..))) ?_
          refine wS (v := (eB (!(x40.toList == x42.toList)))) (sv (d_pickF rfl h22 rfl)) ?_
          refine OpsW.nil ?_
          refine Ex.then_mk ?_
          exact hG1 _ _ _ _ (Ghost.rn [] rfl rfl (FLe.same rfl (FLe.same rfl (FLe.same rfl (FLe.same rfl FLe.nil)))) HLe.nil rfl) (J1 (!(x40.toList == x42.toList)) hr)
set_option maxRecDepth 20000 in
set_option maxHeartbeats 1000000 in
theorem ref01_Same_ok (N : Nat) (va : List Int) (b : List Int) (r : Bool) (hr : ref01_Same N va b = some r) :
    Vm.Fn Tryd.prog 17 [] [(.row none 1 (va.map (eI .u8))), (.row none 1 (b.map (eI .u8)))] (eB r) [] := by
  refine fn_ab Tryd.func17 rfl (by kernel_rfl) Tryd.ntmps17 (Nat.le_of_ble_eq_true rfl) rfl (fr := [(0, (.row none 1 (va.map (eI .u8)))), (1, (.row none 1 (b.map (eI .u8))))]) rfl ?_
  unfold ref01_Same at hr
  refine AB.seq ?_
  refine AB.rw ?_
  refine wS (v := (eB false)) (sv (d_assign rfl)) ?_
  refine OpsW.nil ?_
  refine Ex.then_mk ?_
  refine AB.seq ?_
  refine AB.rw ?_
  refine wS (v := (.row none 1 (va.map (eI .u8)))) (sv (d_move rfl)) ?_
  refine wS (v := (eS (strOf va))) (sv (d_conv rfl (convB ti22 ti9 ti5 (srcR (fun _ => rfl))))) ?_
  refine wS (v := (.row none 1 (b.map (eI .u8)))) (sv (d_move rfl)) ?_
  refine wS (v := (eS (strOf b))) (sv (d_conv rfl (convB ti22 ti9 ti5 (srcR (fun _ => rfl))))) ?_
  refine wS (v := (eB ((strOf va).toList == (strOf b).toList))) (sv (d_bin rfl rfl (bin_eqlS ..))) ?_
  refine wS (v := (eB ((strOf va).toList == (strOf b).toList))) (sv (d_assign rfl)) ?_
  refine OpsW.nil ?_
  refine Ex.then_mk ?_
  refine AB.ret ?_
  obtain rfl := Option.some.inj hr
  exact done_ret (r1 := (eB ((strOf va).toList == (strOf b).toList))) (res1 Tryd.results17 (rvT rfl)) (Ghost.rn [] rfl rfl (FLe.same rfl FLe.nil) HLe.nil rfl)
set_option maxRecDepth 20000 in
set_option maxHeartbeats 1000000 in
theorem law27_AddressDecodes_ok (N : Nat) (vs : ByteArray) (vn : Int) (b : List Int) (vat : Int) (vby : Int) (r : Bool) (hr : law27_AddressDecodes N vs vn b vat vby = some r) :
    Vm.Fn Tryd.prog 5 [] [(eS vs), (eI .i64 vn), (.row none 1 (b.map (eI .u8))), (eI .i64 vat), (eI .i64 vby)] (eB r) [] := by
  refine fn_ab Tryd.func5 rfl (by kernel_rfl) Tryd.ntmps5 (Nat.le_of_ble_eq_true rfl) rfl (fr := [(0, (eS vs)), (1, (eI .i64 vn)), (2, (.row none 1 (b.map (eI .u8)))), (3, (eI .i64 vat)), (4, (eI .i64 vby))]) rfl ?_
  unfold law27_AddressDecodes at hr
  refine AB.seq ?_
  refine AB.rw ?_
  refine wS (v := (eB false)) (sv (d_assign rfl)) ?_
  refine OpsW.nil ?_
  refine Ex.then_mk ?_
  refine AB.seq ?_
  refine AB.seq ?_
  replace hr := bnd hr; obtain ⟨x21, h_1, hr⟩ := hr
  refine AB.rw ?_
  refine wC (v := (eB x21)) (h' := []) rfl (Vm.Fn.pure (law27_sane_ok N x21 h_1) rfl rfl) ?_
  refine wS (v := (eB (!x21))) (sv (d_un rfl (un_not _ _))) ?_
  refine OpsW.nil ?_
  refine Ex.then_mk ?_
  refine AB.cnd rfl (fun h2 => ?_) (fun h2 => ?_)
  · replace hr := iteT hr h2
    refine AB.seq ?_
    refine AB.rw ?_
    refine wS (v := (eB false)) (sv (d_assign rfl)) ?_
    refine OpsW.nil ?_
    refine Ex.then_mk ?_
    refine AB.ret ?_
    refine Ex.then_ret_mk ?_
    obtain rfl := Option.some.inj hr
    exact done_ret (r1 := (eB false)) (res1 Tryd.results5 (rvT rfl)) (Ghost.rn [] rfl rfl (FLe.same rfl FLe.nil) HLe.nil rfl)
  · replace hr := iteF hr h2
    refine AB.skip ?_
    refine Ex.then_mk ?_
    refine AB.seq ?_
    refine AB.seq_g fun K1 hK1 hG1 => ?_
    have J1 : ∀ (x30 : Bool), law27_AddressDecodes_J1 N vs vn b vat vby x30 = some r → K1 (mkF 94 [(0, (eS vs)), (1, (eI .i64 vn)), (2, (.row none 1 (b.map (eI .u8)))), (3, (eI .i64 vat)), (4, (eI .i64 vby)), (30, (eB x30))]) [] := by
      intro x30 hr
      unfold law27_AddressDecodes_J1 at hr
      refine hK1 _ _ ?_
      refine AB.cnd rfl (fun h3 => ?_) (fun h3 => ?_)
      · replace hr := iteT hr h3
        refine AB.seq ?_
        refine AB.rw ?_
        refine wS (v := (eB true)) (sv (d_assign rfl)) ?_
        refine OpsW.nil ?_
        refine Ex.then_mk ?_
        refine AB.ret ?_
        refine Ex.then_ret_mk ?_
        obtain rfl := Option.some.inj hr
        exact done_ret (r1 := (eB true)) (res1 Tryd.results5 (rvT rfl)) (Ghost.rn [] rfl rfl (FLe.same rfl FLe.nil) HLe.nil rfl)
      · replace hr := iteF hr h3
        refine AB.skip ?_
        refine Ex.then_mk ?_
        refine AB.seq ?_
        replace hr := bnd hr; obtain ⟨x32, h_4, hr⟩ := hr
        refine AB.rw ?_
        refine wS (v := (eI .i64 vn)) (sv (d_move rfl)) ?_
        refine wC (v := (eS x32)) (h' := []) rfl (Vm.Fn.pure (law27_prefix_ok N vn x32 h_4) rfl rfl) ?_
        refine wS (v := (eS x32)) (sv (d_assign rfl)) ?_
        refine OpsW.nil ?_
        refine Ex.then_mk ?_
        refine AB.seq ?_
        replace hr := bnd hr; obtain ⟨x36, h_5, hr⟩ := hr
        refine AB.rw ?_
        refine wS (v := (eS x32)) (sv (d_move rfl)) ?_
        refine wS (v := (.row none 1 (b.map (eI .u8)))) (sv (d_move rfl)) ?_
        refine wC (v := (.tup [(eS x36.1), (eI .i64 x36.2)])) (h' := []) rfl (Vm.Fn.pure (ref27_Encode_ok N x32 b x36 h_5) rfl rfl) ?_
        refine wS (v := (.tup [(eS x36.1), (eI .i64 x36.2)])) (sv (d_move rfl)) ?_
        refine wS (v := (eS x36.1)) (sv (d_ext rfl rfl)) ?_
        refine wS (v := (eI .i64 x36.2)) (sv (d_ext rfl rfl)) ?_
        refine wS (v := (eS x36.1)) (sv (d_assign rfl)) ?_
        refine wS (v := (eI .i64 x36.2)) (sv (d_assign rfl)) ?_
        refine OpsW.nil ?_
        refine Ex.then_mk ?_
        refine AB.seq ?_
        replace hr := bnd hr; obtain ⟨x40, h_6, hr⟩ := hr
        refine AB.rw ?_
        refine wS (v := (eS x36.1)) (sv (d_move rfl)) ?_
        refine wStr (h' := [some ⟨5, x40.map (eI .u8)⟩]) rfl ti9 ti22 ti5 h_6 rfl rfl ?_
        refine wS (v := (.sl 0 0 x40.length 1 false)) (sv (d_assign rfl)) ?_
        refine OpsW.nil ?_
        refine Ex.then_mk ?_
        refine AB.seq ?_
        replace hr := bnd hr; obtain ⟨x45, h_7, hr⟩ := hr
        replace hr := bnd hr; obtain ⟨x48, h_8, hr⟩ := hr
        refine AB.rw ?_
        refine wS (v := (.sl 0 0 x40.length 1 false)) (sv (d_move rfl)) ?_
        refine wS (v := (eI .i64 vat)) (sv (d_move rfl)) ?_
        refine wS (v := (.sl 0 0 x40.length 1 false)) (sv (d_move rfl)) ?_
        refine wS (v := (eI .i64 (x40.length : Int))) (sv (d_len rfl (lenS ti22))) ?_
        refine wC (v := (eI .i64 x45)) (h' := [some ⟨5, x40.map (eI .u8)⟩]) rfl (Vm.Fn.pure (mill_Mod_ok N vat (x40.length : Int) x45 h_7) rfl rfl) ?_
        refine wS (v := (eI .i64 vby)) (sv (d_move rfl)) ?_
        refine wS (v := (eI .u8 (IntKind.u8.wrap vby))) (sv (d_conv rfl (conv_int _ ⟨_, ti3⟩ ti5 rfl))) ?_
        refine wS (v := (.ptr 0 (Int.toNat x45))) (sv (d_ia rfl rfl (iaS rfl ti22 ti5 rfl h_8))) ?_
        refine wN (h' := [some ⟨5, (x40.set (Int.toNat x45) (IntKind.u8.wrap vby)).map (eI .u8)⟩]) (sv (d_store rfl rfl (stXe (E := (eI .u8)) (y := IntKind.u8.wrap vby) ti5 rfl rfl h_8 rfl rfl rfl))) ?_
        refine OpsW.nil ?_
        refine Ex.then_mk ?_
        refine AB.seq_g fun K2 hK2 hG2 => ?_
        have J2 : law27_AddressDecodes_J2 N = some r → K2 (mkF 94 []) [] := by
          intro hr
          unfold law27_AddressDecodes_J2 at hr
          refine hK2 _ _ ?_
          refine AB.seq ?_
          refine AB.rw ?_
          refine wS (v := (eB true)) (sv (d_assign rfl)) ?_
          refine OpsW.nil ?_
          refine Ex.then_mk ?_
          refine AB.ret ?_
          obtain rfl := Option.some.inj hr
          exact done_ret (r1 := (eB true)) (res1 Tryd.results5 (rvT rfl)) (Ghost.rn [] rfl rfl (FLe.same rfl FLe.nil) HLe.nil rfl)
        refine AB.seq ?_
        replace hr := bnd hr; obtain ⟨x51, h_9, hr⟩ := hr
        replace hr := bnd hr; obtain ⟨x53, h_10, hr⟩ := hr
        replace hr := bnd hr; obtain ⟨x61, h_11, hr⟩ := hr
        replace hr := bnd hr; obtain ⟨x62, h_13, hr⟩ := hr
        replace hr := bnd hr; obtain ⟨x65, h_14, hr⟩ := hr
        have hc12 : Vm.Fn Tryd.prog 14 [some ⟨5, (x40.set (Int.toNat x45) (IntKind.u8.wrap vby)).map (eI .u8)⟩] [(eI .i64 vat), (eI .i64 (IntKind.i64.wrap ((x36.1.size : Int) + 1)))] (eI .i64 x61) [some ⟨5, (x40.set (Int.toNat x45) (IntKind.u8.wrap vby)).map (eI .u8)⟩] := (Vm.Fn.pure (mill_Mod_ok N vat (IntKind.i64.wrap ((x36.1.size : Int) + 1)) x61 h_11) rfl rfl)
        refine AB.rg (Env.one mixed hc12 allF (fun _ _ => rfl)) (fun _ => by show drawOk allF _ = true; decide +kernel) ?_
        refine tS (v := (eS vs)) (sv (d_move rfl)) ?_
        refine tS (v := (eS x32)) (sv (d_move rfl)) ?_
        refine tS (v := (eS x51)) (sv (d_bin rfl rfl (bin_cat _ _ _ h_9))) ?_
        refine tS (v := (eS vs)) (sv (d_move rfl)) ?_
        refine tS (v := (eS x53)) (sv (d_bin rfl rfl (bin_cat _ _ _ h_10))) ?_
        refine tS (v := (.sl 0 0 x40.length 1 false)) (sv (d_move rfl)) ?_
        refine tS (v := (eS (strOf (x40.set (Int.toNat x45) (IntKind.u8.wrap vby))))) (sv (d_conv rfl (convB ti22 ti9 ti5 (srcS (by simp only [len_set, len_cpy]) rfl)))) ?_
        refine tS (v := (eS x36.1)) (sv (d_move rfl)) ?_
        refine tS (v := (eI .i64 vat)) (sv (d_move rfl)) ?_
        refine tS (v := (eS x36.1)) (sv (d_move rfl)) ?_
        refine tS (v := (eI .i64 (x36.1.size : Int))) (sv (d_len rfl (lenT ti9))) ?_
        refine tS (v := (eI .i64 (IntKind.i64.wrap ((x36.1.size : Int) + 1)))) (sv (d_bin rfl rfl (bin_add ..))) ?_
        refine tS (v := (eI .i64 x61)) (h' := [some ⟨5, (x40.set (Int.toNat x45) (IntKind.u8.wrap vby)).map (eI .u8)⟩]) (sv (d_call rfl Env.one_O)) ?_
        refine tS (v := (eS x62)) (sv (d_slice rfl rfl rfl (slT ti9 rfl rfl h_13))) ?_
        refine tS (v := (eS x36.1)) (sv (d_move rfl)) ?_
        refine tS (v := (eS x36.1)) (sv (d_move rfl)) ?_
        refine tS (v := (eS x65)) (sv (d_bin rfl rfl (bin_cat _ _ _ h_14))) ?_
        refine tS (v := (.sl 1 0 5 1 false)) (h' := [some ⟨5, (x40.set (Int.toNat x45) (IntKind.u8.wrap vby)).map (eI .u8)⟩, some ⟨9, [vs, x53, strOf (x40.set (Int.toNat x45) (IntKind.u8.wrap vby)), x62, x65].map eS⟩]) (sv (d_buildS rfl (bldL1 (xs := [vs, x53, strOf (x40.set (Int.toNat x45) (IntKind.u8.wrap vby)), x62, x65].map eS) ti28 ti9 (Nat.le_of_ble_eq_true rfl) (Nat.le_of_ble_eq_true rfl) rfl rfl rfl rfl rfl rfl rfl))) ?_
        refine tS (v := (eI .i64 (5 : Int))) (sv (d_len rfl (lenS ti28))) ?_
        refine tS (v := (eI .i64 0)) (sv (d_move rfl)) ?_
        refine OpsTo.nil ?_
        refine Ex.then_mk ?_
        replace hr := bnd hr; obtain ⟨res3, hL3, hr⟩ := hr
        refine AB.block ?_
        refine AB.loopN (fun m s h => ∃ (x68 : Int), law27_AddressDecodes_L3 N vs vby x32 x40 x45 x53 x62 x65 m x68 = some res3 ∧ Ghost 0 s h (mkF 94 [(11, (eS x32)), (66, (.sl 0 0 ([vs, x53, strOf (x40.set (Int.toNat x45) (IntKind.u8.wrap vby)), x62, x65].length) 1 false)), (67, (eI .i64 (5 : Int))), (68, (eI .i64 x68))]) [some ⟨9, [vs, x53, strOf (x40.set (Int.toNat x45) (IntKind.u8.wrap vby)), x62, x65].map eS⟩]) (n := N) ⟨0, hL3, (Ghost.rn [1] rfl rfl (FLe.same rfl (FLe.le rfl (by first | exact V.le_refl _ _ | (simp only [len_set, len_cpy]; exact V.le_refl _ _)) (FLe.same rfl (FLe.same rfl FLe.nil)))) (HLe.live rfl (les_map (fun _ => rfl) _) (all_map (fun _ => rfl) _) HLe.nil) rfl)⟩ (by rintro s h ⟨_, h0, _⟩; simp [law27_AddressDecodes_L3] at h0) ?_
        rintro m3 s h ⟨x68, hr3, hg⟩
        refine AB.ghost hg ?_
        clear hg hL3
        rw [law27_AddressDecodes_L3] at hr3
        refine AB.seq ?_
        refine AB.rw ?_
        refine wS (v := (eB (decide (x68 < (5 : Int))))) (sv (d_bin rfl rfl (bin_lss ..))) ?_
        refine OpsW.nil ?_
        refine Ex.then_mk ?_
        refine AB.seq ?_
        refine AB.cnd rfl (fun h15 => ?_) (fun h15 => ?_)
        · replace hr3 := iteT hr3 h15
          refine AB.skip ?_
          refine Ex.then_mk ?_
          refine AB.seq ?_
          refine AB.block ?_
          refine AB.seq ?_
          replace hr3 := bnd hr3; obtain ⟨x70, h_16, hr3⟩ := hr3
          refine AB.rw ?_
          refine wS (v := (.ptr 0 (Int.toNat x68))) (sv (d_ia rfl rfl (iaS rfl ti28 ti9 rfl h_16))) ?_
          refine wS (v := (eS x70)) (sv (d_load rfl (ldX (E := eS) (y := x70) ti9 rfl rfl h_16))) ?_
          refine wS (v := (eS x70)) (sv (d_assign rfl)) ?_
          refine OpsW.nil ?_
          refine Ex.then_mk ?_
          refine AB.seq ?_
          replace hr3 := bnd hr3; obtain ⟨x75, h_17, hr3⟩ := hr3
          refine AB.rw ?_
          refine wS (v := (eS x32)) (sv (d_move rfl)) ?_
          refine wS (v := (eS x70)) (sv (d_move rfl)) ?_
          refine wC (v := (.tup [(.sl 1 0 x75.1.length 1 false), (eI .i64 x75.2)])) (h' := [some ⟨9, [vs, x53, strOf (x40.set (Int.toNat x45) (IntKind.u8.wrap vby)), x62, x65].map eS⟩, some ⟨5, x75.1.map (eI .u8)⟩]) rfl (Vm.Fn.lendB (address_Decode_ok N x32 x70 x75 h_17) [] (by decide) rfl Lend.nil rfl rfl (by simp only [lent, lendSet, lendSet_nil, rnH, Blk.rn, V.rns, V.rn, sg, List.map_cons, List.map_nil, Option.map_some, Option.map_none, List.drop_succ_cons, List.drop_zero, List.drop_nil, List.set_cons_zero, List.set_cons_succ, List.cons_append, List.nil_append, List.append_nil, rns_eI, rns_eB, rns_eS, rns_eL, List.getElem?_cons_zero, List.getElem?_cons_succ, List.getElem?_nil, List.length_cons, List.length_nil, Nat.reduceAdd, Nat.reduceSub, Nat.add_zero, Nat.zero_add, Nat.sub_self, Nat.sub_zero])) ?_
          refine wS (v := (.tup [(.sl 1 0 x75.1.length 1 false), (eI .i64 x75.2)])) (sv (d_move rfl)) ?_
          refine wS (v := (.sl 1 0 x75.1.length 1 false)) (sv (d_ext rfl rfl)) ?_
          refine wS (v := (eI .i64 x75.2)) (sv (d_ext rfl rfl)) ?_
          refine wS (v := (.sl 1 0 x75.1.length 1 false)) (sv (d_assign rfl)) ?_
          refine wS (v := (eI .i64 x75.2)) (sv (d_assign rfl)) ?_
          refine OpsW.nil ?_
          refine Ex.then_mk ?_
          refine AB.seq ?_
          replace hr3 := bnd hr3; obtain ⟨x81, h_18, hr3⟩ := hr3
          refine AB.rw ?_
          refine wS (v := (eS x32)) (sv (d_move rfl)) ?_
          refine wS (v := (eS x70)) (sv (d_move rfl)) ?_
          refine wC (v := (.tup [(.sl 2 0 x81.1.length 1 false), (eI .i64 x81.2)])) (h' := [some ⟨9, [vs, x53, strOf (x40.set (Int.toNat x45) (IntKind.u8.wrap vby)), x62, x65].map eS⟩, some ⟨5, x75.1.map (eI .u8)⟩, some ⟨5, x81.1.map (eI .u8)⟩]) rfl (Vm.Fn.lendB (ref27_Decode_ok N x32 x70 x81 h_18) [] (by decide) rfl Lend.nil rfl rfl (by simp only [lent, lendSet, lendSet_nil, rnH, Blk.rn, V.rns, V.rn, sg, List.map_cons, List.map_nil, Option.map_some, Option.map_none, List.drop_succ_cons, List.drop_zero, List.drop_nil, List.set_cons_zero, List.set_cons_succ, List.cons_append, List.nil_append, List.append_nil, rns_eI, rns_eB, rns_eS, rns_eL, List.getElem?_cons_zero, List.getElem?_cons_succ, List.getElem?_nil, List.length_cons, List.length_nil, Nat.reduceAdd, Nat.reduceSub, Nat.add_zero, Nat.zero_add, Nat.sub_self, Nat.sub_zero])) ?_
          refine wS (v := (.tup [(.sl 2 0 x81.1.length 1 false), (eI .i64 x81.2)])) (sv (d_move rfl)) ?_
          refine wS (v := (.sl 2 0 x81.1.length 1 false)) (sv (d_ext rfl rfl)) ?_
          refine wS (v := (eI .i64 x81.2)) (sv (d_ext rfl rfl)) ?_
          refine wS (v := (.sl 2 0 x81.1.length 1 false)) (sv (d_assign rfl)) ?_
          refine wS (v := (eI .i64 x81.2)) (sv (d_assign rfl)) ?_
          refine OpsW.nil ?_
          refine Ex.then_mk ?_
          refine AB.seq_g fun K4 hK4 hG4 => ?_
          have J4 : ∀ (x92 : Bool), law27_AddressDecodes_J4 N vs vby x32 x40 x45 x53 x62 x65 x68 (law27_AddressDecodes_L3 N vs vby x32 x40 x45 x53 x62 x65 m3) x92 = some res3 → K4 (mkF 94 [(11, (eS x32)), (66, (.sl 0 0 ([vs, x53, strOf (x40.set (Int.toNat x45) (IntKind.u8.wrap vby)), x62, x65].length) 1 false)), (67, (eI .i64 (5 : Int))), (68, (eI .i64 x68)), (92, (eB x92))]) [some ⟨9, [vs, x53, strOf (x40.set (Int.toNat x45) (IntKind.u8.wrap vby)), x62, x65].map eS⟩] := by
            intro x92 hr3
            unfold law27_AddressDecodes_J4 at hr3
            refine hK4 _ _ ?_
            refine AB.cnd rfl (fun h19 => ?_) (fun h19 => ?_)
            · replace hr3 := iteT hr3 h19
              refine AB.seq ?_
              refine AB.rw ?_
              refine wS (v := (eB false)) (sv (d_assign rfl)) ?_
              refine OpsW.nil ?_
              refine Ex.then_mk ?_
              refine AB.ret ?_
              refine Ex.inBlock_ret_mk ?_
              refine Ex.then_ret_mk ?_
              refine Ex.then_ret_mk ?_
              refine Ex.inBlock_ret_mk ?_
              refine Ex.then_ret_mk ?_
              obtain rfl := Option.some.inj hr3
              obtain rfl := Option.some.inj hr
              exact done_ret (r1 := (eB false)) (res1 Tryd.results5 (rvT rfl)) (Ghost.rn [] rfl rfl (FLe.same rfl FLe.nil) HLe.nil rfl)
            · replace hr3 := iteF hr3 h19
              refine AB.skip ?_
              refine Ex.inBlock_mk ?_
              refine Ex.then_mk ?_
              refine AB.rw ?_
              refine wS (v := (eI .i64 (IntKind.i64.wrap (x68 + 1)))) (sv (d_bin rfl rfl (bin_add ..))) ?_
              refine wS (v := (eI .i64 (IntKind.i64.wrap (x68 + 1)))) (sv (d_move rfl)) ?_
              refine OpsW.nil ?_
              refine Ex.then_mk ?_
              exact ⟨IntKind.i64.wrap (x68 + 1), hr3, (Ghost.rn [0] rfl rfl (FLe.same rfl (FLe.same rfl (FLe.same rfl (FLe.same rfl FLe.nil)))) (HLe.live rfl (les_map (fun _ => rfl) _) (all_map (fun _ => rfl) _) HLe.nil) rfl)⟩
          rcases Bool.eq_false_or_eq_true (x75.2 != x81.2) with h20 | h20
          · replace hr3 := iteT hr3 h20
            refine AB.rw ?_
            refine wS (v := (eI .i64 x75.2)) (sv (d_move rfl)) ?_
            refine wS (v := (eI .i64 x81.2)) (sv (d_move rfl)) ?_
            refine wS (v := (eB (x75.2 != x81.2))) (sv (d_bin rfl rfl (bin_neq ..))) ?_
            refine wS (v := (eB (x75.2 != x81.2))) (sv (d_move rfl)) ?_
            refine wS (svX rfl rfl h20) ?_
            refine wS (svX rfl rfl h20) ?_
            refine wS (svX rfl rfl h20) ?_
            refine wS (svX rfl rfl h20) ?_
            refine wS (v := (eB true)) (sv (d_pickT rfl h20 rfl)) ?_
            refine OpsW.nil ?_
            refine Ex.then_mk ?_
            exact hG4 _ _ _ _ (Ghost.rn [0] rfl rfl (FLe.same rfl (FLe.same rfl (FLe.same rfl (FLe.same rfl (FLe.same rfl FLe.nil))))) (HLe.live rfl (les_map (fun _ => rfl) _) (all_map (fun _ => rfl) _) HLe.nil) rfl) (J4 true hr3)
          · replace hr3 := iteF hr3 h20
            replace hr3 := bnd hr3; obtain ⟨x90, h_21, hr3⟩ := hr3
            refine AB.rw ?_
            refine wS (v := (eI .i64 x75.2)) (sv (d_move rfl)) ?_
            refine wS (v := (eI .i64 x81.2)) (sv (d_move rfl)) ?_
            refine wS (v := (eB (x75.2 != x81.2))) (sv (d_bin rfl rfl (bin_neq ..))) ?_
            refine wS (v := (eB (x75.2 != x81.2))) (sv (d_move rfl)) ?_
            refine wS (v := (.sl 1 0 x75.1.length 1 false)) (svG rfl rfl h20 (d_move rfl)) ?_
            refine wS (v := (.sl 2 0 x81.1.length 1 false)) (svG rfl rfl h20 (d_move rfl)) ?_
            refine wCG (v := (eB x90)) (h' := [some ⟨9, [vs, x53, strOf (x40.set (Int.toNat x45) (IntKind.u8.wrap vby)), x62, x65].map eS⟩, some ⟨5, x75.1.map (eI .u8)⟩, some ⟨5, x81.1.map (eI .u8)⟩]) rfl rfl h20 rfl (Vm.Fn.lendR (ref01_Same_ok N x75.1 x81.1 x90 h_21) [] [1, 2] (by decide) rfl (by decide) Lend.nil (Brw.row (exp_slT rfl rfl (fun _ => rfl)) (Brw.row (exp_slT rfl rfl (fun _ => rfl)) Brw.nil)) rfl rfB.nil rfl (by simp only [lent, lendSet, lendSet_nil, rnH, Blk.rn, V.rns, V.rn, sg, List.map_cons, List.map_nil, Option.map_some, Option.map_none, List.drop_succ_cons, List.drop_zero, List.drop_nil, List.set_cons_zero, List.set_cons_succ, List.cons_append, List.nil_append, List.append_nil, rns_eI, rns_eB, rns_eS, rns_eL, List.getElem?_cons_zero, List.getElem?_cons_succ, List.getElem?_nil, List.length_cons, List.length_nil, Nat.reduceAdd, Nat.reduceSub, Nat.add_zero, Nat.zero_add, Nat.sub_self, Nat.sub_zero])) ?_
            refine wS (v := (eB (!x90))) (svG rfl rfl h20 (d_un rfl (un_not _ _))) ?_
            refine wS (v := (eB (!x90))) (sv (d_pickF rfl h20 rfl)) ?_
            refine OpsW.nil ?_
            refine Ex.then_mk ?_
            exact hG4 _ _ _ _ (Ghost.rn [0] rfl rfl (FLe.same rfl (FLe.same rfl (FLe.same rfl (FLe.same rfl (FLe.same rfl FLe.nil))))) (HLe.live rfl (les_map (fun _ => rfl) _) (all_map (fun _ => rfl) _) HLe.nil) rfl) (J4 (!x90) hr3)
        · replace hr3 := iteF hr3 h15
          refine AB.exit ?_
          refine Ex.then_exit_mk ?_
          refine Ex.then_exit_mk ?_
          refine Ex.inBlock_same_mk ?_
          obtain rfl := Option.some.inj hr3
          refine Ex.then_mk ?_
          exact hG2 _ _ _ _ (Ghost.rn [] rfl rfl FLe.nil HLe.nil rfl) (J2 hr)
    rcases Bool.eq_false_or_eq_true (decide (250 < (vs.size : Int))) with h22 | h22
    · replace hr := iteT hr h22
      refine AB.rw ?_
      refine wS (v := (eS vs)) (sv (d_move rfl)) ?_
      refine wS (v := (eI .i64 (vs.size : Int))) (sv (d_len rfl (lenT ti9))) ?_
      refine wS (v := (eB (decide (250 < (vs.size : Int))))) (sv (d_bin rfl rfl (bin_gtr ..))) ?_
      refine wS (v := (eB (decide (250 < (vs.size : Int))))) (sv (d_move rfl)) ?_
      refine wS (svX rfl rfl h22) ?_
      refine wS (svX rfl rfl h22) ?_
      refine wS (svX rfl rfl h22) ?_
      refine wS (v := (eB true)) (sv (d_pickT rfl h22 rfl)) ?_
      refine OpsW.nil ?_
      refine Ex.then_mk ?_
      exact hG1 _ _ _ _ (Ghost.rn [] rfl rfl (FLe.same rfl (FLe.same rfl (FLe.same rfl (FLe.same rfl (FLe.same rfl (FLe.same rfl FLe.nil)))))) HLe.nil rfl) (J1 true hr)
    · replace hr := iteF hr h22
      refine AB.rw ?_
      refine wS (v := (eS vs)) (sv (d_move rfl)) ?_
      refine wS (v := (eI .i64 (vs.size : Int))) (sv (d_len rfl (lenT ti9))) ?_
      refine wS (v := (eB (decide (250 < (vs.size : Int))))) (sv (d_bin rfl rfl (bin_gtr ..))) ?_
      refine wS (v := (eB (decide (250 < (vs.size : Int))))) (sv (d_move rfl)) ?_
      refine wS (v := (.row none 1 (b.map (eI .u8)))) (svG rfl rfl h22 (d_move rfl)) ?_
      refine wS (v := (eI .i64 (b.length : Int))) (svG rfl rfl h22 (d_len rfl (lenR ti22))) ?_
      refine wS (v := (eB (decide (100 < (b.length : Int))))) (svG rfl rfl h22 (d_bin rfl rfl (bin_gtr ..))) ?_
      refine wS (v := (eB (decide (100 < (b.length : Int))))) (sv (d_pickF rfl h22 rfl)) ?_
      refine OpsW.nil ?_
      refine Ex.then_mk ?_
      exact hG1 _ _ _ _ (Ghost.rn [] rfl rfl (FLe.same rfl (FLe.same rfl (FLe.same rfl (FLe.same rfl (FLe.same rfl (FLe.same rfl FLe.nil)))))) HLe.nil rfl) (J1 (decide (100 < (b.length : Int))) hr)
set_option maxRecDepth 20000 in
set_option maxHeartbeats 1000000 in
theorem law27_AddressBack_ok (N : Nat) (vn : Int) (b : List Int) (r : Bool) (hr : law27_AddressBack N vn b = some r) :
    Vm.Fn Tryd.prog 6 [] [(eI .i64 vn), (.row none 1 (b.map (eI .u8)))] (eB r) [] := by
  refine fn_ab Tryd.func6 rfl (by kernel_rfl) Tryd.ntmps6 (Nat.le_of_ble_eq_true rfl) rfl (fr := [(0, (eI .i64 vn)), (1, (.row none 1 (b.map (eI .u8))))]) rfl ?_
  unfold law27_AddressBack at hr
  refine AB.seq ?_
  refine AB.rw ?_
  refine wS (v := (eB false)) (sv (d_assign rfl)) ?_
  refine OpsW.nil ?_
  refine Ex.then_mk ?_
  refine AB.seq ?_
  refine AB.seq ?_
  replace hr := bnd hr; obtain ⟨x14, h_1, hr⟩ := hr
  refine AB.rw ?_
  refine wC (v := (eB x14)) (h' := []) rfl (Vm.Fn.pure (law27_sane_ok N x14 h_1) rfl rfl) ?_
  refine wS (v := (eB (!x14))) (sv (d_un rfl (un_not _ _))) ?_
  refine OpsW.nil ?_
  refine Ex.then_mk ?_
  refine AB.cnd rfl (fun h2 => ?_) (fun h2 => ?_)
  · replace hr := iteT hr h2
    refine AB.seq ?_
    refine AB.rw ?_
    refine wS (v := (eB false)) (sv (d_assign rfl)) ?_
    refine OpsW.nil ?_
    refine Ex.then_mk ?_
    refine AB.ret ?_
    refine Ex.then_ret_mk ?_
    obtain rfl := Option.some.inj hr
    exact done_ret (r1 := (eB false)) (res1 Tryd.results6 (rvT rfl)) (Ghost.rn [] rfl rfl (FLe.same rfl FLe.nil) HLe.nil rfl)
  · replace hr := iteF hr h2
    refine AB.skip ?_
    refine Ex.then_mk ?_
    refine AB.seq ?_
    refine AB.seq ?_
    refine AB.rw ?_
    refine wS (v := (.row none 1 (b.map (eI .u8)))) (sv (d_move rfl)) ?_
    refine wS (v := (eI .i64 (b.length : Int))) (sv (d_len rfl (lenR ti22))) ?_
    refine wS (v := (eB (decide (100 < (b.length : Int))))) (sv (d_bin rfl rfl (bin_gtr ..))) ?_
    refine OpsW.nil ?_
    refine Ex.then_mk ?_
    refine AB.cnd rfl (fun h3 => ?_) (fun h3 => ?_)
    · replace hr := iteT hr h3
      refine AB.seq ?_
      refine AB.rw ?_
      refine wS (v := (eB true)) (sv (d_assign rfl)) ?_
      refine OpsW.nil ?_
      refine Ex.then_mk ?_
      refine AB.ret ?_
      refine Ex.then_ret_mk ?_
      obtain rfl := Option.some.inj hr
      exact done_ret (r1 := (eB true)) (res1 Tryd.results6 (rvT rfl)) (Ghost.rn [] rfl rfl (FLe.same rfl FLe.nil) HLe.nil rfl)
    · replace hr := iteF hr h3
      refine AB.skip ?_
      refine Ex.then_mk ?_
      refine AB.seq ?_
      replace hr := bnd hr; obtain ⟨x20, h_4, hr⟩ := hr
      refine AB.rw ?_
      refine wS (v := (eI .i64 vn)) (sv (d_move rfl)) ?_
      refine wC (v := (eS x20)) (h' := []) rfl (Vm.Fn.pure (law27_prefix_ok N vn x20 h_4) rfl rfl) ?_
      refine wS (v := (eS x20)) (sv (d_assign rfl)) ?_
      refine OpsW.nil ?_
      refine Ex.then_mk ?_
      refine AB.seq ?_
      replace hr := bnd hr; obtain ⟨x24, h_5, hr⟩ := hr
      refine AB.rw ?_
      refine wS (v := (eS x20)) (sv (d_move rfl)) ?_
      refine wS (v := (.row none 1 (b.map (eI .u8)))) (sv (d_move rfl)) ?_
      refine wC (v := (.tup [(eS x24.1), (eI .i64 x24.2)])) (h' := []) rfl (Vm.Fn.pure (address_Encode_ok N x20 b x24 h_5) rfl rfl) ?_
      refine wS (v := (.tup [(eS x24.1), (eI .i64 x24.2)])) (sv (d_move rfl)) ?_
      refine wS (v := (eS x24.1)) (sv (d_ext rfl rfl)) ?_
      refine wS (v := (eI .i64 x24.2)) (sv (d_ext rfl rfl)) ?_
      refine wS (v := (eS x24.1)) (sv (d_assign rfl)) ?_
      refine wS (v := (eI .i64 x24.2)) (sv (d_assign rfl)) ?_
      refine OpsW.nil ?_
      refine Ex.then_mk ?_
      refine AB.seq ?_
      replace hr := bnd hr; obtain ⟨x28, h_6, hr⟩ := hr
      refine AB.rw ?_
      refine wS (v := (eS x24.1)) (sv (d_move rfl)) ?_
      refine wStr (h' := [some ⟨5, x28.map (eI .u8)⟩]) rfl ti9 ti22 ti5 h_6 rfl rfl ?_
      refine wS (v := (.sl 0 0 x28.length 1 false)) (sv (d_assign rfl)) ?_
      refine OpsW.nil ?_
      refine Ex.then_mk ?_
      refine AB.seq_g fun K1 hK1 hG1 => ?_
      have J1 : ∀ (l0 : List Int), law27_AddressBack_J1 N b x20 x24 l0 = some r → K1 (mkF 88 [(1, (.row none 1 (b.map (eI .u8)))), (5, (eS x20)), (6, (eS x24.1)), (7, (eI .i64 x24.2)), (8, (.sl 0 0 l0.length 1 false))]) [some ⟨5, l0.map (eI .u8)⟩] := by
        intro l0 hr
        unfold law27_AddressBack_J1 at hr
        refine hK1 _ _ ?_
        refine AB.seq ?_
        replace hr := bnd hr; obtain ⟨x58, h_7, hr⟩ := hr
        refine AB.rw ?_
        refine wS (v := (eS x20)) (sv (d_move rfl)) ?_
        refine wS (v := (eS x24.1)) (sv (d_move rfl)) ?_
        refine wC (v := (.tup [(.sl 1 0 x58.1.length 1 false), (eI .i64 x58.2)])) (h' := [some ⟨5, l0.map (eI .u8)⟩, some ⟨5, x58.1.map (eI .u8)⟩]) rfl (Vm.Fn.lendB (address_Decode_ok N x20 x24.1 x58 h_7) [] (by decide) rfl Lend.nil rfl rfl (by simp only [lent, lendSet, lendSet_nil, rnH, Blk.rn, V.rns, V.rn, sg, List.map_cons, List.map_nil, Option.map_some, Option.map_none, List.drop_succ_cons, List.drop_zero, List.drop_nil, List.set_cons_zero, List.set_cons_succ, List.cons_append, List.nil_append, List.append_nil, rns_eI, rns_eB, rns_eS, rns_eL, List.getElem?_cons_zero, List.getElem?_cons_succ, List.getElem?_nil, List.length_cons, List.length_nil, Nat.reduceAdd, Nat.reduceSub, Nat.add_zero, Nat.zero_add, Nat.sub_self, Nat.sub_zero])) ?_
        refine wS (v := (.tup [(.sl 1 0 x58.1.length 1 false), (eI .i64 x58.2)])) (sv (d_move rfl)) ?_
        refine wS (v := (.sl 1 0 x58.1.length 1 false)) (sv (d_ext rfl rfl)) ?_
        refine wS (v := (eI .i64 x58.2)) (sv (d_ext rfl rfl)) ?_
        refine wS (v := (.sl 1 0 x58.1.length 1 false)) (sv (d_assign rfl)) ?_
        refine wS (v := (eI .i64 x58.2)) (sv (d_assign rfl)) ?_
        refine OpsW.nil ?_
        refine Ex.then_mk ?_
        refine AB.seq ?_
        replace hr := bnd hr; obtain ⟨x65, h_8, hr⟩ := hr
        refine AB.rw ?_
        refine wS (v := (eS x20)) (sv (d_move rfl)) ?_
        refine wS (v := (.sl 0 0 l0.length 1 false)) (sv (d_move rfl)) ?_
        refine wS (v := (eS (strOf l0))) (sv (d_conv rfl (convB ti22 ti9 ti5 (srcS rfl rfl)))) ?_
        refine wC (v := (.tup [(.sl 2 0 x65.1.length 1 false), (eI .i64 x65.2)])) (h' := [some ⟨5, l0.map (eI .u8)⟩, some ⟨5, x58.1.map (eI .u8)⟩, some ⟨5, x65.1.map (eI .u8)⟩]) rfl (Vm.Fn.lendB (address_Decode_ok N x20 (strOf l0) x65 h_8) [] (by decide) rfl Lend.nil rfl rfl (by simp only [lent, lendSet, lendSet_nil, rnH, Blk.rn, V.rns, V.rn, sg, List.map_cons, List.map_nil, Option.map_some, Option.map_none, List.drop_succ_cons, List.drop_zero, List.drop_nil, List.set_cons_zero, List.set_cons_succ, List.cons_append, List.nil_append, List.append_nil, rns_eI, rns_eB, rns_eS, rns_eL, List.getElem?_cons_zero, List.getElem?_cons_succ, List.getElem?_nil, List.length_cons, List.length_nil, Nat.reduceAdd, Nat.reduceSub, Nat.add_zero, Nat.zero_add, Nat.sub_self, Nat.sub_zero])) ?_
        refine wS (v := (.tup [(.sl 2 0 x65.1.length 1 false), (eI .i64 x65.2)])) (sv (d_move rfl)) ?_
        refine wS (v := (.sl 2 0 x65.1.length 1 false)) (sv (d_ext rfl rfl)) ?_
        refine wS (v := (eI .i64 x65.2)) (sv (d_ext rfl rfl)) ?_
        refine wS (v := (.sl 2 0 x65.1.length 1 false)) (sv (d_assign rfl)) ?_
        refine wS (v := (eI .i64 x65.2)) (sv (d_assign rfl)) ?_
        refine OpsW.nil ?_
        refine Ex.then_mk ?_
        refine AB.seq_g fun K2 hK2 hG2 => ?_
        have J2 : ∀ (x4 : Bool), law27_AddressBack_J2 N x4 = some r → K2 (mkF 88 [(4, (eB x4))]) [] := by
          intro x4 hr
          unfold law27_AddressBack_J2 at hr
          refine hK2 _ _ ?_
          refine AB.ret ?_
          obtain rfl := Option.some.inj hr
          exact done_ret (r1 := (eB x4)) (res1 Tryd.results6 (rvT rfl)) (Ghost.rn [] rfl rfl (FLe.same rfl FLe.nil) HLe.nil rfl)
        rcases Bool.eq_false_or_eq_true (x24.2 == 0) with h9 | h9
        · replace hr := iteT hr h9
          rcases Bool.eq_false_or_eq_true (x58.2 == 0) with h10 | h10
          · replace hr := iteT hr h10
            rcases Bool.eq_false_or_eq_true (x65.2 == 0) with h11 | h11
            · replace hr := iteT hr h11
              replace hr := bnd hr; obtain ⟨x81, h_12, hr⟩ := hr
              rcases Bool.eq_false_or_eq_true x81 with h13 | h13
              · replace hr := iteT hr h13
                replace hr := bnd hr; obtain ⟨x86, h_14, hr⟩ := hr
                refine AB.rw ?_
                refine wS (v := (eI .i64 x24.2)) (sv (d_move rfl)) ?_
                refine wS (v := (eB (x24.2 == 0))) (sv (d_bin rfl rfl (bin_eql ..))) ?_
                refine wS (v := (eB (x24.2 == 0))) (sv (d_move rfl)) ?_
                refine wS (v := (eI .i64 x58.2)) (svG rfl rfl h9 (d_move rfl)) ?_
                refine wS (v := (eB (x58.2 == 0))) (svG rfl rfl h9 (d_bin rfl rfl (bin_eql ..))) ?_
                refine wS (v := (eB (x58.2 == 0))) (sv (d_pickT rfl h9 rfl)) ?_
                refine wS (v := (eB (x58.2 == 0))) (sv (d_move rfl)) ?_
                refine wS (v := (eI .i64 x65.2)) (svG rfl rfl h10 (d_move rfl)) ?_
                refine wS (v := (eB (x65.2 == 0))) (svG rfl rfl h10 (d_bin rfl rfl (bin_eql ..))) ?_
                refine wS (v := (eB (x65.2 == 0))) (sv (d_pickT rfl h10 rfl)) ?_
                refine wS (v := (eB (x65.2 == 0))) (sv (d_move rfl)) ?_
                refine wS (v := (.sl 1 0 x58.1.length 1 false)) (svG rfl rfl h11 (d_move rfl)) ?_
                refine wS (v := (.row none 1 (b.map (eI .u8)))) (svG rfl rfl h11 (d_move rfl)) ?_
                refine wCG (v := (eB x81)) (h' := [some ⟨5, l0.map (eI .u8)⟩, some ⟨5, x58.1.map (eI .u8)⟩, some ⟨5, x65.1.map (eI .u8)⟩]) rfl rfl h11 rfl (Vm.Fn.lendR (ref01_Same_ok N x58.1 b x81 h_12) [] [1] (by decide) rfl (by decide) Lend.nil (Brw.row (exp_slT rfl rfl (fun _ => rfl)) (Brw.same rfl Brw.nil)) rfl rfB.nil rfl (by simp only [lent, lendSet, lendSet_nil, rnH, Blk.rn, V.rns, V.rn, sg, List.map_cons, List.map_nil, Option.map_some, Option.map_none, List.drop_succ_cons, List.drop_zero, List.drop_nil, List.set_cons_zero, List.set_cons_succ, List.cons_append, List.nil_append, List.append_nil, rns_eI, rns_eB, rns_eS, rns_eL, List.getElem?_cons_zero, List.getElem?_cons_succ, List.getElem?_nil, List.length_cons, List.length_nil, Nat.reduceAdd, Nat.reduceSub, Nat.add_zero, Nat.zero_add, Nat.sub_self, Nat.sub_zero])) ?_
                refine wS (v := (eB x81)) (sv (d_pickT rfl h11 rfl)) ?_
                refine wS (v := (eB x81)) (sv (d_move rfl)) ?_
                refine wS (v := (.sl 2 0 x65.1.length 1 false)) (svG rfl rfl h13 (d_move rfl)) ?_
                refine wS (v := (.row none 1 (b.map (eI .u8)))) (svG rfl rfl h13 (d_move rfl)) ?_
                refine wCG (v := (eB x86)) (h' := [some ⟨5, l0.map (eI .u8)⟩, some ⟨5, x58.1.map (eI .u8)⟩, some ⟨5, x65.1.map (eI .u8)⟩]) rfl rfl h13 rfl (Vm.Fn.lendR (ref01_Same_ok N x65.1 b x86 h_14) [] [2] (by decide) rfl (by decide) Lend.nil (Brw.row (exp_slT rfl rfl (fun _ => rfl)) (Brw.same rfl Brw.nil)) rfl rfB.nil rfl (by simp only [lent, lendSet, lendSet_nil, rnH, Blk.rn, V.rns, V.rn, sg, List.map_cons, List.map_nil, Option.map_some, Option.map_none, List.drop_succ_cons, List.drop_zero, List.drop_nil, List.set_cons_zero, List.set_cons_succ, List.cons_append, List.nil_append, List.append_nil, rns_eI, rns_eB, rns_eS, rns_eL, List.getElem?_cons_zero, List.getElem?_cons_succ, List.getElem?_nil, List.length_cons, List.length_nil, Nat.reduceAdd, Nat.reduceSub, Nat.add_zero, Nat.zero_add, Nat.sub_self, Nat.sub_zero])) ?_
                refine wS (v := (eB x86)) (sv (d_pickT rfl h13 rfl)) ?_
                refine wS (v := (eB x86)) (sv (d_assign rfl)) ?_
                refine OpsW.nil ?_
                refine Ex.then_mk ?_
                exact hG2 _ _ _ _ (Ghost.rn [] rfl rfl (FLe.same rfl FLe.nil) HLe.nil rfl) (J2 x86 hr)
              · replace hr := iteF hr h13
                refine AB.rw ?_
                refine wS (v := (eI .i64 x24.2)) (sv (d_move rfl)) ?_
                refine wS (v := (eB (x24.2 == 0))) (sv (d_bin rfl rfl (bin_eql ..))) ?_
                refine wS (v := (eB (x24.2 == 0))) (sv (d_move rfl)) ?_
                refine wS (v := (eI .i64 x58.2)) (svG rfl rfl h9 (d_move rfl)) ?_
                refine wS (v := (eB (x58.2 == 0))) (svG rfl rfl h9 (d_bin rfl rfl (bin_eql ..))) ?_
                refine wS (v := (eB (x58.2 == 0))) (sv (d_pickT rfl h9 rfl)) ?_
                refine wS (v := (eB (x58.2 == 0))) (sv (d_move rfl)) ?_
                refine wS (v := (eI .i64 x65.2)) (svG rfl rfl h10 (d_move rfl)) ?_
                refine wS (v := (eB (x65.2 == 0))) (svG rfl rfl h10 (d_bin rfl rfl (bin_eql ..))) ?_
                refine wS (v := (eB (x65.2 == 0))) (sv (d_pickT rfl h10 rfl)) ?_
                refine wS (v := (eB (x65.2 == 0))) (sv (d_move rfl)) ?_
                refine wS (v := (.sl 1 0 x58.1.length 1 false)) (svG rfl rfl h11 (d_move rfl)) ?_
                refine wS (v := (.row none 1 (b.map (eI .u8)))) (svG rfl rfl h11 (d_move rfl)) ?_
                refine wCG (v := (eB x81)) (h' := [some ⟨5, l0.map (eI .u8)⟩, some ⟨5, x58.1.map (eI .u8)⟩, some ⟨5, x65.1.map (eI .u8)⟩]) rfl rfl h11 rfl (Vm.Fn.lendR (ref01_Same_ok N x58.1 b x81 h_12) [] [1] (by decide) rfl (by decide) Lend.nil (Brw.row (exp_slT rfl rfl (fun _ => rfl)) (Brw.same rfl Brw.nil)) rfl rfB.nil rfl (by simp only [lent, lendSet, lendSet_nil, rnH, Blk.rn, V.rns, V.rn, sg, List.map_cons, List.map_nil, Option.map_some, Option.map_none, List.drop_succ_cons, List.drop_zero, List.drop_nil, List.set_cons_zero, List.set_cons_succ, List.cons_append, List.nil_append, List.append_nil, rns_eI, rns_eB, rns_eS, rns_eL, List.getElem?_cons_zero, List.getElem?_cons_succ, List.getElem?_nil, List.length_cons, List.length_nil, Nat.reduceAdd, Nat.reduceSub, Nat.add_zero, Nat.zero_add, Nat.sub_self, Nat.sub_zero])) ?_
                refine wS (v := (eB x81)) (sv (d_pickT rfl h11 rfl)) ?_
                refine wS (v := (eB x81)) (sv (d_move rfl)) ?_
                refine wS (svX rfl rfl h13) ?_
                refine wS (svX rfl rfl h13) ?_
                refine wS (svX rfl rfl h13) ?_
                refine wS (v := (eB false)) (sv (d_pickF rfl h13 rfl)) ?_
                refine wS (v := (eB false)) (sv (d_assign rfl)) ?_
                refine OpsW.nil ?_
                refine Ex.then_mk ?_
                exact hG2 _ _ _ _ (Ghost.rn [] rfl rfl (FLe.same rfl FLe.nil) HLe.nil rfl) (J2 false hr)
            · replace hr := iteF hr h11
              refine AB.rw ?_
              refine wS (v := (eI .i64 x24.2)) (sv (d_move rfl)) ?_
              refine wS (v := (eB (x24.2 == 0))) (sv (d_bin rfl rfl (bin_eql ..))) ?_
              refine wS (v := (eB (x24.2 == 0))) (sv (d_move rfl)) ?_
              refine wS (v := (eI .i64 x58.2)) (svG rfl rfl h9 (d_move rfl)) ?_
              refine wS (v := (eB (x58.2 == 0))) (svG rfl rfl h9 (d_bin rfl rfl (bin_eql ..))) ?_
              refine wS (v := (eB (x58.2 == 0))) (sv (d_pickT rfl h9 rfl)) ?_
              refine wS (v := (eB (x58.2 == 0))) (sv (d_move rfl)) ?_
              refine wS (v := (eI .i64 x65.2)) (svG rfl rfl h10 (d_move rfl)) ?_
              refine wS (v := (eB (x65.2 == 0))) (svG rfl rfl h10 (d_bin rfl rfl (bin_eql ..))) ?_
              refine wS (v := (eB (x65.2 == 0))) (sv (d_pickT rfl h10 rfl)) ?_
              refine wS (v := (eB (x65.2 == 0))) (sv (d_move rfl)) ?_
              refine wS (svX rfl rfl h11) ?_
              refine wS (svX rfl rfl h11) ?_
              refine wS (svX rfl rfl h11) ?_
              refine wS (v := (eB false)) (sv (d_pickF rfl h11 rfl)) ?_
              refine wS (v := (eB false)) (sv (d_move rfl)) ?_
              refine wS (svX rfl rfl rfl) ?_
              refine wS (svX rfl rfl rfl) ?_
              refine wS (svX rfl rfl rfl) ?_
              refine wS (v := (eB false)) (sv (d_pickF rfl rfl rfl)) ?_
              refine wS (v := (eB false)) (sv (d_assign rfl)) ?_
              refine OpsW.nil ?_
              refine Ex.then_mk ?_
              exact hG2 _ _ _ _ (Ghost.rn [] rfl rfl (FLe.same rfl FLe.nil) HLe.nil rfl) (J2 false hr)
          · replace hr := iteF hr h10
            refine AB.rw ?_
            refine wS (v := (eI .i64 x24.2)) (sv (d_move rfl)) ?_
            refine wS (v := (eB (x24.2 == 0))) (sv (d_bin rfl rfl (bin_eql ..))) ?_
            refine wS (v := (eB (x24.2 == 0))) (sv (d_move rfl)) ?_
            refine wS (v := (eI .i64 x58.2)) (svG rfl rfl h9 (d_move rfl)) ?_
            refine wS (v := (eB (x58.2 == 0))) (svG rfl rfl h9 (d_bin rfl rfl (bin_eql ..))) ?_
            refine wS (v := (eB (x58.2 == 0))) (sv (d_pickT rfl h9 rfl)) ?_
            refine wS (v := (eB (x58.2 == 0))) (sv (d_move rfl)) ?_
            refine wS (svX rfl rfl h10) ?_
            refine wS (svX rfl rfl h10) ?_
            refine wS (v := (eB false)) (sv (d_pickF rfl h10 rfl)) ?_
            refine wS (v := (eB false)) (sv (d_move rfl)) ?_
            refine wS (svX rfl rfl rfl) ?_
            refine wS (svX rfl rfl rfl) ?_
            refine wS (svX rfl rfl rfl) ?_
            refine wS (v := (eB false)) (sv (d_pickF rfl rfl rfl)) ?_
            refine wS (v := (eB false)) (sv (d_move rfl)) ?_
            refine wS (svX rfl rfl rfl) ?_
            refine wS (svX rfl rfl rfl) ?_
            refine wS (svX rfl rfl rfl) ?_
            refine wS (v := (eB false)) (sv (d_pickF rfl rfl rfl)) ?_
            refine wS (v := (eB false)) (sv (d_assign rfl)) ?_
            refine OpsW.nil ?_
            refine Ex.then_mk ?_
            exact hG2 _ _ _ _ (Ghost.rn [] rfl rfl (FLe.same rfl FLe.nil) HLe.nil rfl) (J2 false hr)
        · replace hr := iteF hr h9
          refine AB.rw ?_
          refine wS (v := (eI .i64 x24.2)) (sv (d_move rfl)) ?_
          refine wS (v := (eB (x24.2 == 0))) (sv (d_bin rfl rfl (bin_eql ..))) ?_
          refine wS (v := (eB (x24.2 == 0))) (sv (d_move rfl)) ?_
          refine wS (svX rfl rfl h9) ?_
          refine wS (svX rfl rfl h9) ?_
          refine wS (v := (eB false)) (sv (d_pickF rfl h9 rfl)) ?_
          refine wS (v := (eB false)) (sv (d_move rfl)) ?_
          refine wS (svX rfl rfl rfl) ?_
          refine wS (svX rfl rfl rfl) ?_
          refine wS (v := (eB false)) (sv (d_pickF rfl rfl rfl)) ?_
          refine wS (v := (eB false)) (sv (d_move rfl)) ?_
          refine wS (svX rfl rfl rfl) ?_
          refine wS (svX rfl rfl rfl) ?_
          refine wS (svX rfl rfl rfl) ?_
          refine wS (v := (eB false)) (sv (d_pickF rfl rfl rfl)) ?_
          refine wS (v := (eB false)) (sv (d_move rfl)) ?_
          refine wS (svX rfl rfl rfl) ?_
          refine wS (svX rfl rfl rfl) ?_
          refine wS (svX rfl rfl rfl) ?_
          refine wS (v := (eB false)) (sv (d_pickF rfl rfl rfl)) ?_
          refine wS (v := (eB false)) (sv (d_assign rfl)) ?_
          refine OpsW.nil ?_
          refine Ex.then_mk ?_
          exact hG2 _ _ _ _ (Ghost.rn [] rfl rfl (FLe.same rfl FLe.nil) HLe.nil rfl) (J2 false hr)
      refine AB.seq ?_
      refine AB.rw ?_
      refine wS (v := (.sl 0 0 x28.length 1 false)) (sv (d_move rfl)) ?_
      refine wS (v := (eI .i64 (x28.length : Int))) (sv (d_len rfl (lenS ti22))) ?_
      refine wS (v := (eI .i64 0)) (sv (d_move rfl)) ?_
      refine OpsW.nil ?_
      refine Ex.then_mk ?_
      replace hr := bnd hr; obtain ⟨res3, hL3, hr⟩ := hr
      refine AB.block ?_
      refine AB.loopN (fun m s h => ∃ (x31 : Int) (l0_1 : List Int), law27_AddressBack_L3 N b x20 x24 x28 m x31 l0_1 = some res3 ∧ Ghost 0 s h (mkF 88 [(1, (.row none 1 (b.map (eI .u8)))), (5, (eS x20)), (6, (eS x24.1)), (7, (eI .i64 x24.2)), (8, (.sl 0 0 l0_1.length 1 false)), (30, (eI .i64 (x28.length : Int))), (31, (eI .i64 x31))]) [some ⟨5, l0_1.map (eI .u8)⟩]) (n := N) ⟨0, x28, hL3, (Ghost.rn [0] rfl rfl (FLe.same rfl (FLe.same rfl (FLe.same rfl (FLe.same rfl (FLe.same rfl (FLe.same rfl (FLe.same rfl FLe.nil))))))) (HLe.live rfl (les_map (fun _ => rfl) _) (all_map (fun _ => rfl) _) HLe.nil) rfl)⟩ (by rintro s h ⟨_, _, h0, _⟩; simp [law27_AddressBack_L3] at h0) ?_
      rintro m3 s h ⟨x31, l0_1, hr3, hg⟩
      refine AB.ghost hg ?_
      clear hg hL3
      rw [law27_AddressBack_L3] at hr3
      refine AB.seq ?_
      refine AB.rw ?_
      refine wS (v := (eB (decide (x31 < (x28.length : Int))))) (sv (d_bin rfl rfl (bin_lss ..))) ?_
      refine OpsW.nil ?_
      refine Ex.then_mk ?_
      refine AB.seq ?_
      refine AB.cnd rfl (fun h15 => ?_) (fun h15 => ?_)
      · replace hr3 := iteT hr3 h15
        refine AB.skip ?_
        refine Ex.then_mk ?_
        refine AB.seq_g fun K4 hK4 hG4 => ?_
        have J4 : ∀ (l0_2 : List Int), law27_AddressBack_J4 N b x20 x24 x28 x31 (law27_AddressBack_L3 N b x20 x24 x28 m3) l0_2 = some res3 → K4 (mkF 88 [(1, (.row none 1 (b.map (eI .u8)))), (5, (eS x20)), (6, (eS x24.1)), (7, (eI .i64 x24.2)), (8, (.sl 0 0 l0_2.length 1 false)), (30, (eI .i64 (x28.length : Int))), (31, (eI .i64 x31))]) [some ⟨5, l0_2.map (eI .u8)⟩] := by
          intro l0_2 hr3
          unfold law27_AddressBack_J4 at hr3
          refine hK4 _ _ ?_
          refine AB.rw ?_
          refine wS (v := (eI .i64 (IntKind.i64.wrap (x31 + 1)))) (sv (d_bin rfl rfl (bin_add ..))) ?_
          refine wS (v := (eI .i64 (IntKind.i64.wrap (x31 + 1)))) (sv (d_move rfl)) ?_
          refine OpsW.nil ?_
          refine Ex.then_mk ?_
          exact ⟨IntKind.i64.wrap (x31 + 1), l0_2, hr3, (Ghost.rn [0] rfl rfl (FLe.same rfl (FLe.same rfl (FLe.same rfl (FLe.same rfl (FLe.same rfl (FLe.same rfl (FLe.same rfl FLe.nil))))))) (HLe.live rfl (les_map (fun _ => rfl) _) (all_map (fun _ => rfl) _) HLe.nil) rfl)⟩
        refine AB.block ?_
        refine AB.seq ?_
        refine AB.rw ?_
        refine wS (v := (eI .i64 x31)) (sv (d_move rfl)) ?_
        refine wS (v := (eI .i64 x31)) (sv (d_assign rfl)) ?_
        refine OpsW.nil ?_
        refine Ex.then_mk ?_
        refine AB.seq_g fun K5 hK5 hG5 => ?_
        have J5 : ∀ (x45 : Bool), law27_AddressBack_J5 N b x20 x24 x28 x31 l0_1 (law27_AddressBack_L3 N b x20 x24 x28 m3) x45 = some res3 → K5 (mkF 88 [(1, (.row none 1 (b.map (eI .u8)))), (5, (eS x20)), (6, (eS x24.1)), (7, (eI .i64 x24.2)), (8, (.sl 0 0 l0_1.length 1 false)), (9, (eI .i64 x31)), (30, (eI .i64 (x28.length : Int))), (31, (eI .i64 x31)), (45, (eB x45))]) [some ⟨5, l0_1.map (eI .u8)⟩] := by
          intro x45 hr3
          unfold law27_AddressBack_J5 at hr3
          refine hK5 _ _ ?_
          refine AB.cnd rfl (fun h16 => ?_) (fun h16 => ?_)
          · replace hr3 := iteT hr3 h16
            replace hr3 := bnd hr3; obtain ⟨x50, h_17, hr3⟩ := hr3
            refine AB.rw ?_
            refine wS (v := (.sl 0 0 l0_1.length 1 false)) (sv (d_move rfl)) ?_
            refine wS (v := (eI .i64 x31)) (sv (d_move rfl)) ?_
            refine wS (v := (.sl 0 0 l0_1.length 1 false)) (sv (d_move rfl)) ?_
            refine wS (v := (eI .i64 x31)) (sv (d_move rfl)) ?_
            refine wS (v := (.ptr 0 (Int.toNat x31))) (sv (d_ia rfl rfl (iaS rfl ti22 ti5 rfl h_17))) ?_
            refine wS (v := (eI .u8 x50)) (sv (d_load rfl (ldX (E := (eI .u8)) (y := x50) ti5 rfl rfl h_17))) ?_
            refine wS (v := (eI .u8 (IntKind.u8.wrap (x50 - 32)))) (sv (d_bin rfl rfl (bin_sub ..))) ?_
            refine wS (v := (.ptr 0 (Int.toNat x31))) (sv (d_ia rfl rfl (iaS rfl ti22 ti5 rfl h_17))) ?_
            refine wN (h' := [some ⟨5, (l0_1.set (Int.toNat x31) (IntKind.u8.wrap (x50 - 32))).map (eI .u8)⟩]) (sv (d_store rfl rfl (stXe (E := (eI .u8)) (y := IntKind.u8.wrap (x50 - 32)) ti5 rfl rfl h_17 rfl rfl rfl))) ?_
            refine OpsW.nil ?_
            refine Ex.inBlock_mk ?_
            refine Ex.then_mk ?_
            exact hG4 _ _ _ _ (Ghost.rn [0] rfl rfl (FLe.same rfl (FLe.same rfl (FLe.same rfl (FLe.same rfl (FLe.le rfl (by first | exact V.le_refl _ _ | (simp only [len_set, len_cpy]; exact V.le_refl _ _)) (FLe.same rfl (FLe.same rfl FLe.nil))))))) (HLe.live rfl (les_map (fun _ => rfl) _) (all_map (fun _ => rfl) _) HLe.nil) rfl) (J4 (l0_1.set (Int.toNat x31) (IntKind.u8.wrap (x50 - 32))) hr3)
          · replace hr3 := iteF hr3 h16
            refine AB.skip ?_
            refine Ex.inBlock_mk ?_
            refine Ex.then_mk ?_
            exact hG4 _ _ _ _ (Ghost.rn [0] rfl rfl (FLe.same rfl (FLe.same rfl (FLe.same rfl (FLe.same rfl (FLe.same rfl (FLe.same rfl (FLe.same rfl FLe.nil))))))) (HLe.live rfl (les_map (fun _ => rfl) _) (all_map (fun _ => rfl) _) HLe.nil) rfl) (J4 l0_1 hr3)
        replace hr3 := bnd hr3; obtain ⟨x36, h_18, hr3⟩ := hr3
        rcases Bool.eq_false_or_eq_true (decide (97 ≤ x36)) with h19 | h19
        · replace hr3 := iteT hr3 h19
          refine AB.rw ?_
          refine wS (v := (.sl 0 0 l0_1.length 1 false)) (sv (d_move rfl)) ?_
          refine wS (v := (eI .i64 x31)) (sv (d_move rfl)) ?_
          refine wS (v := (.ptr 0 (Int.toNat x31))) (sv (d_ia rfl rfl (iaS rfl ti22 ti5 rfl h_18))) ?_
          refine wS (v := (eI .u8 x36)) (sv (d_load rfl (ldX (E := (eI .u8)) (y := x36) ti5 rfl rfl h_18))) ?_
          refine wS (v := (eB (decide (97 ≤ x36)))) (sv (d_bin rfl rfl (bin_geq ..))) ?_
          refine wS (v := (eB (decide (97 ≤ x36)))) (sv (d_move rfl)) ?_
          refine wS (v := (.sl 0 0 l0_1.length 1 false)) (svG rfl rfl h19 (d_move rfl)) ?_
          refine wS (v := (eI .i64 x31)) (svG rfl rfl h19 (d_move rfl)) ?_
          refine wS (v := (.ptr 0 (Int.toNat x31))) (svG rfl rfl h19 (d_ia rfl rfl (iaS rfl ti22 ti5 rfl h_18))) ?_
          refine wS (v := (eI .u8 x36)) (svG rfl rfl h19 (d_load rfl (ldX (E := (eI .u8)) (y := x36) ti5 rfl rfl h_18))) ?_
          refine wS (v := (eB (decide (x36 ≤ 122)))) (svG rfl rfl h19 (d_bin rfl rfl (bin_leq ..))) ?_
          refine wS (v := (eB (decide (x36 ≤ 122)))) (sv (d_pickT rfl h19 rfl)) ?_
          refine OpsW.nil ?_
          refine Ex.then_mk ?_
          exact hG5 _ _ _ _ (Ghost.rn [0] rfl rfl (FLe.same rfl (FLe.same rfl (FLe.same rfl (FLe.same rfl (FLe.same rfl (FLe.same rfl (FLe.same rfl (FLe.same rfl (FLe.same rfl FLe.nil))))))))) (HLe.live rfl (les_map (fun _ => rfl) _) (all_map (fun _ => rfl) _) HLe.nil) rfl) (J5 (decide (x36 ≤ 122)) hr3)
        · replace hr3 := iteF hr3 h19
          refine AB.rw ?_
          refine wS (v := (.sl 0 0 l0_1.length 1 false)) (sv (d_move rfl)) ?_
          refine wS (v := (eI .i64 x31)) (sv (d_move rfl)) ?_
          refine wS (v := (.ptr 0 (Int.toNat x31))) (sv (d_ia rfl rfl (iaS rfl ti22 ti5 rfl h_18))) ?_
          refine wS (v := (eI .u8 x36)) (sv (d_load rfl (ldX (E := (eI .u8)) (y := x36) ti5 rfl rfl h_18))) ?_
          refine wS (v := (eB (decide (97 ≤ x36)))) (sv (d_bin rfl rfl (bin_geq ..))) ?_
          refine wS (v := (eB (decide (97 ≤ x36)))) (sv (d_move rfl)) ?_
          refine wS (svX rfl rfl h19) ?_
          refine wS (svX rfl rfl h19) ?_
          refine wS (svX rfl rfl h19) ?_
          refine wS (svX rfl rfl h19) ?_
          refine wS (svX rfl rfl h19) ?_
          refine wS (v := (eB false)) (sv (d_pickF rfl h19 rfl)) ?_
          refine OpsW.nil ?_
          refine Ex.then_mk ?_
          exact hG5 _ _ _ _ (Ghost.rn [0] rfl rfl (FLe.same rfl (FLe.same rfl (FLe.same rfl (FLe.same rfl (FLe.same rfl (FLe.same rfl (FLe.same rfl (FLe.same rfl (FLe.same rfl FLe.nil))))))))) (HLe.live rfl (les_map (fun _ => rfl) _) (all_map (fun _ => rfl) _) HLe.nil) rfl) (J5 false hr3)
      · replace hr3 := iteF hr3 h15
        refine AB.exit ?_
        refine Ex.then_exit_mk ?_
        refine Ex.then_exit_mk ?_
        refine Ex.inBlock_same_mk ?_
        obtain rfl := Option.some.inj hr3
        refine Ex.then_mk ?_
        exact hG1 _ _ _ _ (Ghost.rn [0] rfl rfl (FLe.same rfl (FLe.same rfl (FLe.same rfl (FLe.same rfl (FLe.same rfl FLe.nil))))) (HLe.live rfl (les_map (fun _ => rfl) _) (all_map (fun _ => rfl) _) HLe.nil) rfl) (J1 l0_1 hr)
end Go.Proofs.YtidkaiebgjbekaaDoor
