/-
  THE LAW LedgerConnects: for all arguments the law that states that Connect answers as the reference does, at a made block and at the same block with a change returns true, never panics, and leaves its input as it was. The two listed variables, sha.k and sha.initial, are laid as the pruned copy of the project has them.
-/
import Derived.Test.YtopdhljncajmpaaGreatDoorQC2
import Derived.Test.YtopdhljncajmpaaGreatDoorQC4
import Derived.Test.YtopdhljncajmpaaGreatDoorQC5
import Derived.Test.YtopdhljncajmpaaGreatDoorQC7
import Derived.Test.YtopdhljncajmpaaGreatDoorQC19
import Derived.Test.YtopdhljncajmpaaGreatDoorQCF
set_option linter.unusedSimpArgs false
set_option linter.unusedVariables false
set_option maxHeartbeats 8000000
namespace Go.Proofs.YtopdhljncajmpaaGreatDoor
open Go Go.Vm
open Go.ChangeShapes Go.WideShapes Go.ChangeAt Go.RowKit

set_option maxRecDepth 100000 in
theorem ledgerConnects_contract (H : Type) (enc : TypeId × Value → H) (W : World) (base : Nat) (args : Array Value) (ds gs : List (DataW H)) (before : List MemPlace)
    (hval : ∀ (j : Nat) t v, Tryz.f3.params[j]? = some t → args[j]? = some v → Value.okWide Tryz.prog W .any base t v)
    (hW : DataW.Whole enc Tryz.prog Tryz.f3.params.toList Rows.ledgerConnectsSpec.vars false W args.toList ds gs before) (hL : laidMetH Tryz.prog Rows.ledgerConnectsRow.laid W) :
    Calls Tryz.prog 3 args W fun e W' => ∃ v, e = .returned v ∧ Rows.ledgerConnectsSpec.post enc Tryz.prog Tryz.f3 false true false false W args v W' := by
  have hW' := hW
  obtain ⟨p, q, hA0, hV, rfl, hfz, hnd⟩ := hW
  have hA : DataW.TrodAll enc Tryz.prog W 0 (fun _ => true) true Tryz.f3.params.toList args.toList ds p := hA0
  rw [Tryz.params3] at hA hval
  have hA' := hA
  obtain ⟨v0, vs0, d0, ds0, p0, q0, hargs0, rfl, rfl, h0, r0⟩ := trodAll_cons hA
  obtain ⟨v1, vs1, d1, ds1, p1, q1, hargs1, rfl, rfl, h1, r1⟩ := trodAll_cons r0
  obtain ⟨v2, vs2, d2, ds2, p2, q2, hargs2, rfl, rfl, h2, r2⟩ := trodAll_cons r1
  obtain ⟨v3, vs3, d3, ds3, p3, q3, hargs3, rfl, rfl, h3, r3⟩ := trodAll_cons r2
  obtain ⟨v4, vs4, d4, ds4, p4, q4, hargs4, rfl, rfl, h4, r4⟩ := trodAll_cons r3
  obtain ⟨v5, vs5, d5, ds5, p5, q5, hargs5, rfl, rfl, h5, r5⟩ := trodAll_cons r4
  obtain ⟨hz, rfl, rfl⟩ := trodAll_nil r5
  obtain rfl : args = #[v0, v1, v2, v3, v4, v5] := by
    subst hz
    subst hargs5
    subst hargs4
    subst hargs3
    subst hargs2
    subst hargs1
    apply Array.ext'
    exact hargs0
  obtain ⟨rfl, rfl⟩ := trodVars_none hV
  obtain ⟨a0, w0, g0⟩ := aD5 Tryz.underlying5 (hval 0 5 v0 rfl rfl) h0
  obtain ⟨a1, w1, g1⟩ := aRS Tryz.underlying22 (aPt Tryz.underlying5) (by kernel_rfl) (by decide) (aVx (E := (eI .u8)) fun _ => rfl) (hval 1 22 v1 rfl rfl) h1
  obtain ⟨a2, w2, g2⟩ := aD5 Tryz.underlying5 (hval 2 5 v2 rfl rfl) h2
  obtain ⟨a3, w3, g3⟩ := aD5 Tryz.underlying5 (hval 3 5 v3 rfl rfl) h3
  obtain ⟨a4, w4, g4⟩ := aD5 Tryz.underlying5 (hval 4 5 v4 rfl rfl) h4
  obtain ⟨a5, w5, g5⟩ := aD5 Tryz.underlying5 (hval 5 5 v5 rfl rfl) h5
  clear hA0
  have hvs : VCells NoX [] W [eI .u8 a0, eL 1 (eI .u8) a1, eI .u8 a2, eI .u8 a3, eI .u8 a4, eI .u8 a5] [v0, v1, v2, v3, v4, v5] := (kC g0 (kC g1 (kC g2 (kC g3 (kC g4 (kC g5 aBT))))))
  have hfn := (aGS (show kQ NN a0 a1 a2 a3 a4 a5 = some true from (aKj (show 70000 ≤ NN by decide) aUi (aFW w0) (aT3 w1) (aFW w2) (aFW w3) (aFW w4) (aFW w5)))).toP
  refine (aQC (vs := [v0, v1, v2, v3, v4, v5]) Tryz.func3 rfl (by kernel_rfl) hfn (a0h hL) hvs).mono fun e W' ⟨he, bel⟩ => ?_
  subst he
  exact ⟨_, rfl, _, _, _, [], _, [], hW', trodAll_mk1 (shut_bool Tryz.underlying4 _), aJ8 aXB bel (aQI (by kernel_rfl)) hA', rfl, bel.frame _, fun h => by cases h⟩

theorem ledgerConnects_met (os : Os) : laidMet Tryz.prog Rows.ledgerConnectsRow.laid ((aKv os).forCall (fun _ _ => 0) ⟨#[], #[.int .u8 0, .slice none 0 0, .int .u8 0, .int .u8 0, .int .u8 0, .int .u8 0], []⟩).memory :=
  laidMet_of_run' 8 (by kernel_rfl) (by kernel_rfl)
theorem ledgerConnects_reads (os : Os) {H : Type} (enc : TypeId × Value → H) : ∃ places, DataW.whole enc Tryz.prog ((aKv os).forCall (fun _ _ => 0) ⟨#[], #[.int .u8 0, .slice none 0 0, .int .u8 0, .int .u8 0, .int .u8 0, .int .u8 0], []⟩).memory Tryz.f3.params.toList Rows.ledgerConnectsSpec.vars false (#[.int .u8 0, .slice none 0 0, .int .u8 0, .int .u8 0, .int .u8 0, .int .u8 0] : Array Value).toList 8 = some ([.lit (.int .u8 0), .nil, .lit (.int .u8 0), .lit (.int .u8 0), .lit (.int .u8 0), .lit (.int .u8 0)], [], places) :=
  ⟨[], by kernel_rfl⟩

set_option maxRecDepth 100000 in
theorem ledgerConnects_lifted (os : Os) (started : os.Started) (H : Type) (enc : TypeId × Value → H) (F : Stop.Interp) :
    ReturnsInHanded {} Tryz.checked os 3 .any ((OpenSpec.ofChange Rows.ledgerConnectsSpec).preRow enc Tryz.prog Tryz.f3 Rows.ledgerConnectsRow.domain false Rows.ledgerConnectsRow.laid) (((OpenSpec.ofChange Rows.ledgerConnectsSpec).at F).post enc Tryz.prog Tryz.f3 false true false false) := by
  obtain ⟨places, hx⟩ := ledgerConnects_reads os enc
  refine returnsInHanded_of_row (C := Tryz.checked) (s := OpenSpec.ofChange Rows.ledgerConnectsSpec) own started (by kernel_rfl) Tryz.func3
    (witness_row_at (enc := enc) (C := Tryz.checked) false (aKv os) #[.int .u8 0, .slice none 0 0, .int .u8 0, .int .u8 0, .int .u8 0, .int .u8 0] rfl (by kernel_rfl) (by kernel_rfl) (by kernel_rfl)
      (OpenSpec.preRow_of_cond 8 hx (by kernel_rfl) (fun k hk => by cases hk) (by kernel_rfl) (ledgerConnects_met os))) ?_
  intro W base args ds gs before hval hW _ _ _ hL _ _
  exact ledgerConnects_contract H enc W base args ds gs before hval hW hL

theorem ledgerConnects_said : Rows.LedgerConnectsSaid :=
  OpenClaim.holds_of_cond 3 Tryz.f3 rfl rfl rfl rfl rfl rfl rfl ⟨rfl, rfl, rfl, rfl, rfl⟩ rfl rfl rfl rfl rfl (by kernel_rfl) Tryz.func3 ledgerConnects_closed
    (of_decide_eq_true (by kernel_rfl)) (by unfold Func.isWrapper; first | (rw [if_pos (by decide +kernel)]; kernel_rfl) | (rw [if_neg (by decide +kernel)]; exact ⟨rfl, rfl⟩))
    (fun os started H enc _ F => by rw [OpenClaim.pre_eq_preRow]; exact ledgerConnects_lifted os started H enc F)

theorem ledgerConnects_plain (f : FuncId) (fn : Func) (hf : Tryz.pinned.checked.prog.funcNamed "lightclient/lightclientlaw23.LedgerConnects" = some f) (hfn : Tryz.pinned.checked.prog.funcs[f]? = some fn) :
    false = Tryz.pinned.checked.prog.looks [] ∧ ∀ (j : Nat) t, fn.params[j]? = some t → Tryz.pinned.checked.prog.wantsStandIn t = false := by
  obtain rfl : f = 3 := Option.some.inj ((show Tryz.prog.funcNamed "lightclient/lightclientlaw23.LedgerConnects" = some 3 by kernel_rfl).symm.trans hf) |>.symm
  obtain rfl : fn = Tryz.f3 := (Option.some.inj (Tryz.func3.symm.trans hfn)).symm
  refine ⟨by kernel_rfl, fun j t ht => ?_⟩
  rw [Tryz.params3] at ht
  have hm : t ∈ [5, 22, 5, 5, 5, 5] := by simpa using Array.mem_of_getElem? ht
  have hall : ∀ u ∈ [5, 22, 5, 5, 5, 5], Tryz.prog.wantsStandIn u = false := by
    intro u hu
    have : ([5, 22, 5, 5, 5, 5].all fun u => !(Tryz.prog.wantsStandIn u)) = true := by kernel_rfl
    simpa using List.all_eq_true.1 this u hu
  exact hall t hm

theorem ledgerConnects_holds : Rows.LedgerConnectsCardSaid :=
  Claim7.holds_tied_plain_at .later [] _ _ _ _ ledgerConnects_said (fun _ h => by cases h) (by kernel_rfl) (fun _ h => by cases h) ledgerConnects_row_tie rfl ⟨rfl, rfl⟩ (by kernel_rfl) rfl ledgerConnects_plain (by kernel_rfl)
end Go.Proofs.YtopdhljncajmpaaGreatDoor
