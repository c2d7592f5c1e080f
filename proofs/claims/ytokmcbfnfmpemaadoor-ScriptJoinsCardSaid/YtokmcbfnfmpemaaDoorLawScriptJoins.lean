/-
  THE LAW ScriptJoins: for all arguments the law that states that two scripts run one after the other are one script run returns true, never panics, and leaves its input as it was. The two listed variables, sha.k and sha.initial, are laid as the pruned copy of the project has them.
-/
import Derived.Test.YtokmcbfnfmpemaaDoorQScriptJoins7
set_option linter.unusedSimpArgs false
set_option linter.unusedVariables false
namespace Go.Proofs.YtokmcbfnfmpemaaDoor
open Go Go.Vm
open Go.ChangeShapes Go.WideShapes Go.ChangeAt Go.RowKit

abbrev scriptJoins_args : Array Value := #[.slice none 0 0, .slice none 0 0, .slice none 0 0, .agg #[.int .u8 0, .int .u8 0, .int .u8 0, .int .u8 0, .int .u8 0, .int .u8 0, .int .u8 0, .int .u8 0, .int .u8 0, .int .u8 0, .int .u8 0, .int .u8 0, .int .u8 0, .int .u8 0, .int .u8 0, .int .u8 0, .int .u8 0, .int .u8 0, .int .u8 0, .int .u8 0, .int .u8 0, .int .u8 0, .int .u8 0, .int .u8 0, .int .u8 0, .int .u8 0, .int .u8 0, .int .u8 0, .int .u8 0, .int .u8 0, .int .u8 0, .int .u8 0, .int .i64 0, .int .i64 0]]
set_option maxRecDepth 100000 in
theorem scriptJoins_contract (H : Type) (enc : TypeId × Value → H) (W : World) (base : Nat) (args : Array Value) (ds gs : List (DataW H)) (before : List MemPlace)
    (hval : ∀ (j : Nat) t v, Tryd.f3.params[j]? = some t → args[j]? = some v → Value.okWide Tryd.prog W .any base t v)
    (hW : DataW.Whole enc Tryd.prog Tryd.f3.params.toList Rows.scriptJoinsSpec.vars false W args.toList ds gs before) (hL : laidMetH Tryd.prog Rows.scriptJoinsRow.laid W) :
    Calls Tryd.prog 3 args W fun e W' => ∃ v, e = .returned v ∧ Rows.scriptJoinsSpec.post enc Tryd.prog Tryd.f3 false true false false W args v W' := by
  have hW' := hW
  obtain ⟨p, q, hA0, hV, rfl, hfz, hnd⟩ := hW
  have hA : DataW.TrodAll enc Tryd.prog W 0 (fun _ => true) true Tryd.f3.params.toList args.toList ds p := hA0
  rw [Tryd.params3] at hA hval
  have hA' := hA
  obtain ⟨v0, vs0, d0, ds0, p0, q0, hargs0, rfl, rfl, h0, r0⟩ := trodAll_cons hA
  obtain ⟨v1, vs1, d1, ds1, p1, q1, hargs1, rfl, rfl, h1, r1⟩ := trodAll_cons r0
  obtain ⟨v2, vs2, d2, ds2, p2, q2, hargs2, rfl, rfl, h2, r2⟩ := trodAll_cons r1
  obtain ⟨v3, vs3, d3, ds3, p3, q3, hargs3, rfl, rfl, h3, r3⟩ := trodAll_cons r2
  obtain ⟨hz, rfl, rfl⟩ := trodAll_nil r3
  obtain rfl : args = #[v0, v1, v2, v3] := by
    subst hz
    subst hargs3
    subst hargs2
    subst hargs1
    apply Array.ext'
    exact hargs0
  obtain ⟨rfl, rfl⟩ := trodVars_none hV
  obtain ⟨a0, w0, g0⟩ := openV_slice Tryd.underlying22 (opens_int Tryd.underlying5) (by kernel_rfl) (by decide) (elem_one (E := (eI .u8)) fun _ => rfl) (hval 0 22 v0 rfl rfl) h0
  obtain ⟨a1, w1, g1⟩ := openV_slice Tryd.underlying22 (opens_int Tryd.underlying5) (by kernel_rfl) (by decide) (elem_one (E := (eI .u8)) fun _ => rfl) (hval 1 22 v1 rfl rfl) h1
  obtain ⟨a2, w2, g2⟩ := openV_slice Tryd.underlying23 (opens_slice Tryd.underlying22 (opens_int Tryd.underlying5) (by kernel_rfl) (by decide) (elem_one (E := (eI .u8)) fun _ => rfl)) (by kernel_rfl) (by decide) (elem_one (E := (eL 1 (eI .u8))) fun _ => rfl) (hval 2 23 v2 rfl rfl) h2
  obtain ⟨a3, w3, g3⟩ := openV_struct Tryd.underlying27 opens_api_Env (hval 3 27 v3 rfl rfl) h3
  clear hA0
  have hvs : VCells NoX [] W [eL 1 (eI .u8) a0, eL 1 (eI .u8) a1, eL 1 (eL 1 (eI .u8)) a2, .agg (C_api_Env a3)] [v0, v1, v2, v3] := (VCells_cons g0 (VCells_cons g1 (VCells_cons g2 (VCells_cons g3 VCells_nil))))
  have hfn := (law08_ScriptJoins_ok NN a0 a1 a2 a3.Message a3.Height a3.Age true (ScriptJoins_true _ _ _ _ _ _ (byt_of_wf w0) (byt_of_wf w1) (fun x hx => byt_of_wf (w2 x hx)) w3.1.1 (byt_of_wf w3.1.2))).toP
  refine (calls_of_pfn (vs := [v0, v1, v2, v3]) Tryd.func3 rfl (by kernel_rfl) hfn (globs hL) hvs).mono fun e W' ⟨he, bel⟩ => ?_
  subst he
  exact ⟨_, rfl, _, _, _, [], _, [], hW', trodAll_mk1 (shut_bool Tryd.underlying4 _), below_trodAll laidOut bel (readable_all (by kernel_rfl)) hA', rfl, bel.frame _, fun h => by cases h⟩

theorem scriptJoins_met (os : Os) : laidMet Tryd.prog Rows.scriptJoinsRow.laid ((laidWorld os).forCall (fun _ _ => 0) ⟨#[], scriptJoins_args, []⟩).memory :=
  laidMet_of_run' 8 (by kernel_rfl) (by kernel_rfl)
theorem scriptJoins_reads (os : Os) {H : Type} (enc : TypeId × Value → H) : ∃ places, DataW.whole enc Tryd.prog ((laidWorld os).forCall (fun _ _ => 0) ⟨#[], scriptJoins_args, []⟩).memory Tryd.f3.params.toList Rows.scriptJoinsSpec.vars false (scriptJoins_args : Array Value).toList 8 = some ([.nil, .nil, .nil, .agg [.agg [.lit (.int .u8 0), .lit (.int .u8 0), .lit (.int .u8 0), .lit (.int .u8 0), .lit (.int .u8 0), .lit (.int .u8 0), .lit (.int .u8 0), .lit (.int .u8 0), .lit (.int .u8 0), .lit (.int .u8 0), .lit (.int .u8 0), .lit (.int .u8 0), .lit (.int .u8 0), .lit (.int .u8 0), .lit (.int .u8 0), .lit (.int .u8 0), .lit (.int .u8 0), .lit (.int .u8 0), .lit (.int .u8 0), .lit (.int .u8 0), .lit (.int .u8 0), .lit (.int .u8 0), .lit (.int .u8 0), .lit (.int .u8 0), .lit (.int .u8 0), .lit (.int .u8 0), .lit (.int .u8 0), .lit (.int .u8 0), .lit (.int .u8 0), .lit (.int .u8 0), .lit (.int .u8 0), .lit (.int .u8 0)], .lit (.int .i64 0), .lit (.int .i64 0)]], [], places) :=
  ⟨[], by kernel_rfl⟩

set_option maxRecDepth 100000 in
theorem scriptJoins_lifted (os : Os) (started : os.Started) (H : Type) (enc : TypeId × Value → H) (F : Stop.Interp) :
    ReturnsInHanded {} Tryd.checked os 3 .any ((OpenSpec.ofChange Rows.scriptJoinsSpec).preRow enc Tryd.prog Tryd.f3 Rows.scriptJoinsRow.domain false Rows.scriptJoinsRow.laid) (((OpenSpec.ofChange Rows.scriptJoinsSpec).at F).post enc Tryd.prog Tryd.f3 false true false false) := by
  obtain ⟨places, hx⟩ := scriptJoins_reads os enc
  refine returnsInHanded_of_row (C := Tryd.checked) (s := OpenSpec.ofChange Rows.scriptJoinsSpec) own started (by kernel_rfl) Tryd.func3
    (witness_row_at (enc := enc) (C := Tryd.checked) false (laidWorld os) scriptJoins_args rfl (by kernel_rfl) (by kernel_rfl) (by kernel_rfl)
      (OpenSpec.preRow_of_cond 8 hx (by kernel_rfl) (fun k hk => by cases hk) (by kernel_rfl) (scriptJoins_met os))) ?_
  intro W base args ds gs before hval hW _ _ _ hL _ _
  exact scriptJoins_contract H enc W base args ds gs before hval hW hL

theorem scriptJoins_said : Rows.ScriptJoinsSaid :=
  OpenClaim.holds_of_cond 3 Tryd.f3 rfl rfl rfl rfl rfl rfl rfl ⟨rfl, rfl, rfl, rfl, rfl⟩ rfl rfl rfl rfl rfl (by kernel_rfl) Tryd.func3 (by kernel_rfl)
    (of_decide_eq_true (by kernel_rfl)) (by unfold Func.isWrapper; first | (rw [if_pos (by decide +kernel)]; kernel_rfl) | (rw [if_neg (by decide +kernel)]; exact ⟨rfl, rfl⟩))
    (fun os started H enc _ F => by rw [OpenClaim.pre_eq_preRow]; exact scriptJoins_lifted os started H enc F)

theorem scriptJoins_plain (f : FuncId) (fn : Func) (hf : Tryd.pinned.checked.prog.funcNamed "lightclient/lightclientlaw08.ScriptJoins" = some f) (hfn : Tryd.pinned.checked.prog.funcs[f]? = some fn) :
    false = Tryd.pinned.checked.prog.looks [] ∧ ∀ (j : Nat) t, fn.params[j]? = some t → Tryd.pinned.checked.prog.wantsStandIn t = false := by
  obtain rfl : f = 3 := Option.some.inj ((show Tryd.prog.funcNamed "lightclient/lightclientlaw08.ScriptJoins" = some 3 by kernel_rfl).symm.trans hf) |>.symm
  obtain rfl : fn = Tryd.f3 := (Option.some.inj (Tryd.func3.symm.trans hfn)).symm
  refine ⟨by kernel_rfl, fun j t ht => ?_⟩
  rw [Tryd.params3] at ht
  have hm : t ∈ [22, 22, 23, 27] := by simpa using Array.mem_of_getElem? ht
  have hall : ∀ u ∈ [22, 22, 23, 27], Tryd.prog.wantsStandIn u = false := by
    intro u hu
    have : ([22, 22, 23, 27].all fun u => !(Tryd.prog.wantsStandIn u)) = true := by kernel_rfl
    simpa using List.all_eq_true.1 this u hu
  exact hall t hm

theorem scriptJoins_holds : Rows.ScriptJoinsCardSaid :=
  Claim7.holds_tied_plain_at .later [] _ _ _ _ scriptJoins_said (fun _ h => by cases h) (by kernel_rfl) (fun _ h => by cases h) scriptJoins_row_tie rfl ⟨rfl, rfl⟩ (by kernel_rfl) rfl scriptJoins_plain (by kernel_rfl)
end Go.Proofs.YtokmcbfnfmpemaaDoor
