/-
  THE LAW LedgerBasics: for all arguments the law that states which ledgers are sound, what the subsidies are, and where the coins are returns true, never panics, and leaves its input as it was. The two listed variables, sha.k and sha.initial, are laid as the pruned copy of the project has them.
-/
import Derived.Test.YtgfdllellpbmoaaGreatDoorQLedgerBasics12
set_option linter.unusedSimpArgs false
set_option linter.unusedVariables false
set_option maxHeartbeats 8000000
namespace Go.Proofs.YtgfdllellpbmoaaGreatDoor
open Go Go.Vm
open Go.ChangeShapes Go.WideShapes Go.ChangeAt Go.RowKit

abbrev ledgerBasics_args : Array Value := #[.agg #[.int .u32 0, .int .u8 0, .int .u8 0, .int .u8 0, .int .u8 0, .int .u8 0, .int .u8 0, .int .u8 0, .int .u8 0, .int .u8 0, .int .u8 0, .int .u8 0, .int .u8 0, .int .u8 0, .int .u8 0, .int .u8 0, .int .u8 0, .int .u8 0, .int .u8 0, .int .u8 0, .int .u8 0, .int .u8 0, .int .u8 0, .int .u8 0, .int .u8 0, .int .u8 0, .int .u8 0, .int .u8 0, .int .u8 0, .int .u8 0, .int .u8 0, .int .u8 0, .int .u8 0, .int .u8 0, .int .u8 0, .int .u8 0, .int .u8 0, .int .u8 0, .int .u8 0, .int .u8 0, .int .u8 0, .int .u8 0, .int .u8 0, .int .u8 0, .int .u8 0, .int .u8 0, .int .u8 0, .int .u8 0, .int .u8 0, .int .u8 0, .int .u8 0, .int .u8 0, .int .u8 0, .int .u8 0, .int .u8 0, .int .u8 0, .int .u8 0, .int .u8 0, .int .u8 0, .int .u8 0, .int .u8 0, .int .u8 0, .int .u8 0, .int .u8 0, .int .u8 0, .int .u32 0, .int .u32 0, .int .u32 0, .int .u64 0, .int .u64 0, .int .u64 0, .int .u64 0, .int .i64 0, .int .u32 0, .int .u32 0, .int .u32 0, .slice none 0 0, .int .i64 0, .int .i64 0, .int .i64 0], .agg #[.int .i64 0, .int .u8 0, .int .u8 0, .int .u8 0, .int .u8 0, .int .u8 0, .int .u8 0, .int .u8 0, .int .u8 0, .int .u8 0, .int .u8 0, .int .u8 0, .int .u8 0, .int .u8 0, .int .u8 0, .int .u8 0, .int .u8 0, .int .u8 0, .int .u8 0, .int .u8 0, .int .u8 0, .int .u8 0, .int .u8 0, .int .u8 0, .int .u8 0, .int .u8 0, .int .u8 0, .int .u8 0, .int .u8 0, .int .u8 0, .int .u8 0, .int .u8 0, .int .u8 0, .slice none 0 0], .int .i64 0, .agg #[.int .u8 0, .int .u8 0, .int .u8 0, .int .u8 0, .int .u8 0, .int .u8 0, .int .u8 0, .int .u8 0, .int .u8 0, .int .u8 0, .int .u8 0, .int .u8 0, .int .u8 0, .int .u8 0, .int .u8 0, .int .u8 0, .int .u8 0, .int .u8 0, .int .u8 0, .int .u8 0, .int .u8 0, .int .u8 0, .int .u8 0, .int .u8 0, .int .u8 0, .int .u8 0, .int .u8 0, .int .u8 0, .int .u8 0, .int .u8 0, .int .u8 0, .int .u8 0, .int .u32 0], .int .u8 0, .slice none 0 0]
set_option maxRecDepth 100000 in
theorem ledgerBasics_contract (H : Type) (enc : TypeId × Value → H) (W : World) (base : Nat) (args : Array Value) (ds gs : List (DataW H)) (before : List MemPlace)
    (hval : ∀ (j : Nat) t v, Tryz.f3.params[j]? = some t → args[j]? = some v → Value.okWide Tryz.prog W .any base t v)
    (hW : DataW.Whole enc Tryz.prog Tryz.f3.params.toList Rows.ledgerBasicsSpec.vars false W args.toList ds gs before) (hL : laidMetH Tryz.prog Rows.ledgerBasicsRow.laid W) :
    Calls Tryz.prog 3 args W fun e W' => ∃ v, e = .returned v ∧ Rows.ledgerBasicsSpec.post enc Tryz.prog Tryz.f3 false true false false W args v W' := by
  have hW' := hW
  obtain ⟨p, q, hA0, hV, rfl, hfz, hnd⟩ := hW
  have hA : DataW.TrodAll enc Tryz.prog W 0 (fun _ => true) true Tryz.f3.params.toList args.toList ds p := hA0
  rw [Tryz.params3] at hA hval
  have hA' := hA
  obtain ⟨v0, vs0, d0, ds0, p0, q0, hargs0, rfl, rfl, h0, r0⟩ := trodAll_cons hA
  obtain ⟨v1, vs1, d1, ds1, p1, q1, hargs1, rfl, rfl, h1, r1⟩ := trodAll_cons r0
  obtain ⟨v2, vs2, d2, ds2, p2, q2, hargs2, rfl, rfl, h2, r2⟩ := trodAll_cons r1
  obtain ⟨v3, vs3, d3, ds3, p3, q3, hargs3, rfl, rfl, h3, r3⟩ := trodAll_cons r2
  obtain ⟨v4, vs4, d4, ds4, p4, q4, hargs4, rfl, rfl, h4, r4⟩ := trodAll_cons r3
  obtain ⟨v5, vs5, d5, ds5, p5, q5, hargs5, rfl, rfl, h5, r5⟩ := trodAll_cons r4
  obtain ⟨hz, rfl, rfl⟩ := trodAll_nil r5
  obtain rfl : args = #[v0, v1, v2, v3, v4, v5] := by
    subst hz
    subst hargs5
    subst hargs4
    subst hargs3
    subst hargs2
    subst hargs1
    apply Array.ext'
    exact hargs0
  obtain ⟨rfl, rfl⟩ := trodVars_none hV
  obtain ⟨a0, w0, g0⟩ := aEa Tryz.underlying32 aIC (hval 0 32 v0 rfl rfl) h0
  obtain ⟨a1, w1, g1⟩ := aEa Tryz.underlying35 aIp (hval 1 35 v1 rfl rfl) h1
  obtain ⟨a2, w2, g2⟩ := aLq Tryz.underlying3 (hval 2 3 v2 rfl rfl) h2
  obtain ⟨a3, w3, g3⟩ := aEa Tryz.underlying37 aDe (hval 3 37 v3 rfl rfl) h3
  obtain ⟨a4, w4, g4⟩ := aLq Tryz.underlying5 (hval 4 5 v4 rfl rfl) h4
  obtain ⟨a5, w5, g5⟩ := aOP Tryz.underlying38 (fE Tryz.underlying5) (by kernel_rfl) (by decide) (aOb (E := (eI .u8)) fun _ => rfl) (hval 5 38 v5 rfl rfl) h5
  clear hA0
  have hvs : VCells yF [] W [.agg (aT a0), .agg (aN a1), eI .i64 a2, .agg (cC a3), eI .u8 a4, eL 1 (eI .u8) a5] [v0, v1, v2, v3, v4, v5] := (gX g0 (gX g1 (gX g2 (gX g3 (gX g4 (gX g5 rT))))))
  have hfn := (aFl (show kM NN a0 a1 a2 a3 a4 a5 = some true from (aH3 (show 70000 ≤ NN by decide) (aRR w0.1.2.2.2.2.1) (aSN w0.2.1) ⟨w0.1.2.1.1, aC7 w0.1.2.1.2⟩ ⟨w0.1.2.2.1.1, aC7 w0.1.2.2.1.2⟩ (fun c hc => ⟨(w1.2.2 c hc).1.1.1, aC7 (w1.2.2 c hc).1.1.2⟩) (aRr w2) ⟨w3.1.1, aC7 w3.1.2⟩ (aSc w4) (aC7 w5)))).toP
  refine (aNr (vs := [v0, v1, v2, v3, v4, v5]) Tryz.func3 rfl (by kernel_rfl) hfn (aXg hL) hvs).mono fun e W' ⟨he, bel⟩ => ?_
  subst he
  exact ⟨_, rfl, _, _, _, [], _, [], hW', trodAll_mk1 (shut_bool Tryz.underlying4 _), aGF aU6 bel (aNy (by kernel_rfl)) hA', rfl, bel.frame _, fun h => by cases h⟩

theorem ledgerBasics_met (os : Os) : laidMet Tryz.prog Rows.ledgerBasicsRow.laid ((aGP os).forCall (fun _ _ => 0) ⟨#[], ledgerBasics_args, []⟩).memory :=
  laidMet_of_run' 8 (by kernel_rfl) (by kernel_rfl)
theorem ledgerBasics_reads (os : Os) {H : Type} (enc : TypeId × Value → H) : ∃ places, DataW.whole enc Tryz.prog ((aGP os).forCall (fun _ _ => 0) ⟨#[], ledgerBasics_args, []⟩).memory Tryz.f3.params.toList Rows.ledgerBasicsSpec.vars false (ledgerBasics_args : Array Value).toList 8 = some ([.agg [.agg [.lit (.int .u32 0), .agg [.lit (.int .u8 0), .lit (.int .u8 0), .lit (.int .u8 0), .lit (.int .u8 0), .lit (.int .u8 0), .lit (.int .u8 0), .lit (.int .u8 0), .lit (.int .u8 0), .lit (.int .u8 0), .lit (.int .u8 0), .lit (.int .u8 0), .lit (.int .u8 0), .lit (.int .u8 0), .lit (.int .u8 0), .lit (.int .u8 0), .lit (.int .u8 0), .lit (.int .u8 0), .lit (.int .u8 0), .lit (.int .u8 0), .lit (.int .u8 0), .lit (.int .u8 0), .lit (.int .u8 0), .lit (.int .u8 0), .lit (.int .u8 0), .lit (.int .u8 0), .lit (.int .u8 0), .lit (.int .u8 0), .lit (.int .u8 0), .lit (.int .u8 0), .lit (.int .u8 0), .lit (.int .u8 0), .lit (.int .u8 0)], .agg [.lit (.int .u8 0), .lit (.int .u8 0), .lit (.int .u8 0), .lit (.int .u8 0), .lit (.int .u8 0), .lit (.int .u8 0), .lit (.int .u8 0), .lit (.int .u8 0), .lit (.int .u8 0), .lit (.int .u8 0), .lit (.int .u8 0), .lit (.int .u8 0), .lit (.int .u8 0), .lit (.int .u8 0), .lit (.int .u8 0), .lit (.int .u8 0), .lit (.int .u8 0), .lit (.int .u8 0), .lit (.int .u8 0), .lit (.int .u8 0), .lit (.int .u8 0), .lit (.int .u8 0), .lit (.int .u8 0), .lit (.int .u8 0), .lit (.int .u8 0), .lit (.int .u8 0), .lit (.int .u8 0), .lit (.int .u8 0), .lit (.int .u8 0), .lit (.int .u8 0), .lit (.int .u8 0), .lit (.int .u8 0)], .lit (.int .u32 0), .lit (.int .u32 0), .lit (.int .u32 0)], .agg [.lit (.int .u64 0), .lit (.int .u64 0), .lit (.int .u64 0), .lit (.int .u64 0)], .lit (.int .i64 0), .lit (.int .u32 0), .lit (.int .u32 0), .lit (.int .u32 0), .nil, .lit (.int .i64 0), .lit (.int .i64 0), .lit (.int .i64 0)], .agg [.lit (.int .i64 0), .agg [.lit (.int .u8 0), .lit (.int .u8 0), .lit (.int .u8 0), .lit (.int .u8 0), .lit (.int .u8 0), .lit (.int .u8 0), .lit (.int .u8 0), .lit (.int .u8 0), .lit (.int .u8 0), .lit (.int .u8 0), .lit (.int .u8 0), .lit (.int .u8 0), .lit (.int .u8 0), .lit (.int .u8 0), .lit (.int .u8 0), .lit (.int .u8 0), .lit (.int .u8 0), .lit (.int .u8 0), .lit (.int .u8 0), .lit (.int .u8 0), .lit (.int .u8 0), .lit (.int .u8 0), .lit (.int .u8 0), .lit (.int .u8 0), .lit (.int .u8 0), .lit (.int .u8 0), .lit (.int .u8 0), .lit (.int .u8 0), .lit (.int .u8 0), .lit (.int .u8 0), .lit (.int .u8 0), .lit (.int .u8 0)], .nil], .lit (.int .i64 0), .agg [.agg [.lit (.int .u8 0), .lit (.int .u8 0), .lit (.int .u8 0), .lit (.int .u8 0), .lit (.int .u8 0), .lit (.int .u8 0), .lit (.int .u8 0), .lit (.int .u8 0), .lit (.int .u8 0), .lit (.int .u8 0), .lit (.int .u8 0), .lit (.int .u8 0), .lit (.int .u8 0), .lit (.int .u8 0), .lit (.int .u8 0), .lit (.int .u8 0), .lit (.int .u8 0), .lit (.int .u8 0), .lit (.int .u8 0), .lit (.int .u8 0), .lit (.int .u8 0), .lit (.int .u8 0), .lit (.int .u8 0), .lit (.int .u8 0), .lit (.int .u8 0), .lit (.int .u8 0), .lit (.int .u8 0), .lit (.int .u8 0), .lit (.int .u8 0), .lit (.int .u8 0), .lit (.int .u8 0), .lit (.int .u8 0)], .lit (.int .u32 0)], .lit (.int .u8 0), .nil], [], places) :=
  ⟨[], by kernel_rfl⟩

set_option maxRecDepth 100000 in
theorem ledgerBasics_lifted (os : Os) (started : os.Started) (H : Type) (enc : TypeId × Value → H) (F : Stop.Interp) :
    ReturnsInHanded {} Tryz.checked os 3 .any ((OpenSpec.ofChange Rows.ledgerBasicsSpec).preRow enc Tryz.prog Tryz.f3 Rows.ledgerBasicsRow.domain false Rows.ledgerBasicsRow.laid) (((OpenSpec.ofChange Rows.ledgerBasicsSpec).at F).post enc Tryz.prog Tryz.f3 false true false false) := by
  obtain ⟨places, hx⟩ := ledgerBasics_reads os enc
  refine returnsInHanded_of_row (C := Tryz.checked) (s := OpenSpec.ofChange Rows.ledgerBasicsSpec) own started (by kernel_rfl) Tryz.func3
    (witness_row_at (enc := enc) (C := Tryz.checked) false (aGP os) ledgerBasics_args rfl (by kernel_rfl) (by kernel_rfl) (by kernel_rfl)
      (OpenSpec.preRow_of_cond 8 hx (by kernel_rfl) (fun k hk => by cases hk) (by kernel_rfl) (ledgerBasics_met os))) ?_
  intro W base args ds gs before hval hW _ _ _ hL _ _
  exact ledgerBasics_contract H enc W base args ds gs before hval hW hL

theorem gt_and {a b : Bool} (h : a = true) (k : b = true) : (a && b) = true := by rw [h, k]; rfl
set_option maxRecDepth 100000 in
theorem ledgerBasics_closed : joinedFacts Tryz.prog 3 Tryz.f3 (OpenSpec.ofChange Rows.ledgerBasicsSpec).bare Rows.ledgerBasicsRow = true := by
  unfold joinedFacts
  repeat' (with_reducible refine gt_and ?_ ?_)
  all_goals (as_aux_lemma => kernel_rfl)
theorem ledgerBasics_said : Rows.LedgerBasicsSaid :=
  OpenClaim.holds_of_cond 3 Tryz.f3 rfl rfl rfl rfl rfl rfl rfl ⟨rfl, rfl, rfl, rfl, rfl⟩ rfl rfl rfl rfl rfl (by kernel_rfl) Tryz.func3 ledgerBasics_closed
    (of_decide_eq_true (by kernel_rfl)) (by unfold Func.isWrapper; first | (rw [if_pos (by decide +kernel)]; kernel_rfl) | (rw [if_neg (by decide +kernel)]; exact ⟨rfl, rfl⟩))
    (fun os started H enc _ F => by rw [OpenClaim.pre_eq_preRow]; exact ledgerBasics_lifted os started H enc F)

theorem ledgerBasics_plain (f : FuncId) (fn : Func) (hf : Tryz.pinned.checked.prog.funcNamed "lightclient/lightclientlaw23.LedgerBasics" = some f) (hfn : Tryz.pinned.checked.prog.funcs[f]? = some fn) :
    false = Tryz.pinned.checked.prog.looks [] ∧ ∀ (j : Nat) t, fn.params[j]? = some t → Tryz.pinned.checked.prog.wantsStandIn t = false := by
  obtain rfl : f = 3 := Option.some.inj ((show Tryz.prog.funcNamed "lightclient/lightclientlaw23.LedgerBasics" = some 3 by kernel_rfl).symm.trans hf) |>.symm
  obtain rfl : fn = Tryz.f3 := (Option.some.inj (Tryz.func3.symm.trans hfn)).symm
  refine ⟨by kernel_rfl, fun j t ht => ?_⟩
  rw [Tryz.params3] at ht
  have hm : t ∈ [32, 35, 3, 37, 5, 38] := by simpa using Array.mem_of_getElem? ht
  have hall : ∀ u ∈ [32, 35, 3, 37, 5, 38], Tryz.prog.wantsStandIn u = false := by
    intro u hu
    have : ([32, 35, 3, 37, 5, 38].all fun u => !(Tryz.prog.wantsStandIn u)) = true := by kernel_rfl
    simpa using List.all_eq_true.1 this u hu
  exact hall t hm

theorem ledgerBasics_holds : Rows.LedgerBasicsCardSaid :=
  Claim7.holds_tied_plain_at .later [] _ _ _ _ ledgerBasics_said (fun _ h => by cases h) (by kernel_rfl) (fun _ h => by cases h) ledgerBasics_row_tie rfl ⟨rfl, rfl⟩ (by kernel_rfl) rfl ledgerBasics_plain (by kernel_rfl)
end Go.Proofs.YtgfdllellpbmoaaGreatDoor
