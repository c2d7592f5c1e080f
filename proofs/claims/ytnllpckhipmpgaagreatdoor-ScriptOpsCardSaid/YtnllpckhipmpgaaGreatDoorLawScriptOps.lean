/-
  THE LAW ScriptOps: for all arguments the law that states that the run of an assembled script and the reference's answer alike, within the limits returns true, never panics, and leaves its input as it was. The two listed variables, sha.k and sha.initial, are laid as the pruned copy of the project has them.
-/
import Derived.Test.YtnllpckhipmpgaaGreatDoorQScriptOps6
set_option linter.unusedSimpArgs false
set_option linter.unusedVariables false
namespace Go.Proofs.YtnllpckhipmpgaaGreatDoor
open Go Go.Vm
open Go.ChangeShapes Go.WideShapes Go.ChangeAt Go.RowKit

abbrev scriptOps_args : Array Value := #[.slice none 0 0, .slice none 0 0, .agg #[.int .u8 0, .int .u8 0, .int .u8 0, .int .u8 0, .int .u8 0, .int .u8 0, .int .u8 0, .int .u8 0, .int .u8 0, .int .u8 0, .int .u8 0, .int .u8 0, .int .u8 0, .int .u8 0, .int .u8 0, .int .u8 0, .int .u8 0, .int .u8 0, .int .u8 0, .int .u8 0, .int .u8 0, .int .u8 0, .int .u8 0, .int .u8 0, .int .u8 0, .int .u8 0, .int .u8 0, .int .u8 0, .int .u8 0, .int .u8 0, .int .u8 0, .int .u8 0, .int .i64 0, .int .i64 0]]
set_option maxRecDepth 100000 in
theorem scriptOps_contract (H : Type) (enc : TypeId × Value → H) (W : World) (base : Nat) (args : Array Value) (ds gs : List (DataW H)) (before : List MemPlace)
    (hval : ∀ (j : Nat) t v, Tryz.f3.params[j]? = some t → args[j]? = some v → Value.okWide Tryz.prog W .any base t v)
    (hW : DataW.Whole enc Tryz.prog Tryz.f3.params.toList Rows.scriptOpsSpec.vars false W args.toList ds gs before) (hL : laidMetH Tryz.prog Rows.scriptOpsRow.laid W) :
    Calls Tryz.prog 3 args W fun e W' => ∃ v, e = .returned v ∧ Rows.scriptOpsSpec.post enc Tryz.prog Tryz.f3 false true false false W args v W' := by
  have hW' := hW
  obtain ⟨p, q, hA0, hV, rfl, hfz, hnd⟩ := hW
  have hA : DataW.TrodAll enc Tryz.prog W 0 (fun _ => true) true Tryz.f3.params.toList args.toList ds p := hA0
  rw [Tryz.params3] at hA hval
  have hA' := hA
  obtain ⟨v0, vs0, d0, ds0, p0, q0, hargs0, rfl, rfl, h0, r0⟩ := trodAll_cons hA
  obtain ⟨v1, vs1, d1, ds1, p1, q1, hargs1, rfl, rfl, h1, r1⟩ := trodAll_cons r0
  obtain ⟨v2, vs2, d2, ds2, p2, q2, hargs2, rfl, rfl, h2, r2⟩ := trodAll_cons r1
  obtain ⟨hz, rfl, rfl⟩ := trodAll_nil r2
  obtain rfl : args = #[v0, v1, v2] := by
    subst hz
    subst hargs2
    subst hargs1
    apply Array.ext'
    exact hargs0
  obtain ⟨rfl, rfl⟩ := trodVars_none hV
  obtain ⟨a0, w0, g0⟩ := aDo Tryz.underlying22 aHK (by kernel_rfl) (by decide) (aLb (K := 4) (C := bT) (fun _ => rfl) (fun _ => rfl)) (hval 0 22 v0 rfl rfl) h0
  obtain ⟨a1, w1, g1⟩ := aDo Tryz.underlying23 (aAU Tryz.underlying31 (qB Tryz.underlying5) (by kernel_rfl) (by decide) (aDy (E := (eI .u8)) fun _ => rfl)) (by kernel_rfl) (by decide) (aDy (E := (eL 1 (eI .u8))) fun _ => rfl) (hval 1 23 v1 rfl rfl) h1
  obtain ⟨a2, w2, g2⟩ := aHf Tryz.underlying27 aGy (hval 2 27 v2 rfl rfl) h2
  clear hA0
  have hvs : VCells rP [] W [eL 4 eQ a0, eL 1 (eL 1 (eI .u8)) a1, .agg (rX a2)] [v0, v1, v2] := (kX g0 (kX g1 (kX g2 qP)))
  have hfn := (aCg (show nO NN a0 a1 a2.Message a2.Height a2.Age = some true from (aFb _ _ _ _ _ (fun o ho => aCy (w0 o ho).2.1) (fun x hx => aCy (w1 x hx)) w2.1.1 (aCy w2.1.2)))).toP
  refine (aHs (vs := [v0, v1, v2]) Tryz.func3 rfl (by kernel_rfl) hfn (aOQ hL) hvs).mono fun e W' ⟨he, bel⟩ => ?_
  subst he
  exact ⟨_, rfl, _, _, _, [], _, [], hW', trodAll_mk1 (shut_bool Tryz.underlying4 _), aCa aMm bel (aHN (by kernel_rfl)) hA', rfl, bel.frame _, fun h => by cases h⟩

theorem scriptOps_met (os : Os) : laidMet Tryz.prog Rows.scriptOpsRow.laid ((aCm os).forCall (fun _ _ => 0) ⟨#[], scriptOps_args, []⟩).memory :=
  laidMet_of_run' 8 (by kernel_rfl) (by kernel_rfl)
theorem scriptOps_reads (os : Os) {H : Type} (enc : TypeId × Value → H) : ∃ places, DataW.whole enc Tryz.prog ((aCm os).forCall (fun _ _ => 0) ⟨#[], scriptOps_args, []⟩).memory Tryz.f3.params.toList Rows.scriptOpsSpec.vars false (scriptOps_args : Array Value).toList 8 = some ([.nil, .nil, .agg [.agg [.lit (.int .u8 0), .lit (.int .u8 0), .lit (.int .u8 0), .lit (.int .u8 0), .lit (.int .u8 0), .lit (.int .u8 0), .lit (.int .u8 0), .lit (.int .u8 0), .lit (.int .u8 0), .lit (.int .u8 0), .lit (.int .u8 0), .lit (.int .u8 0), .lit (.int .u8 0), .lit (.int .u8 0), .lit (.int .u8 0), .lit (.int .u8 0), .lit (.int .u8 0), .lit (.int .u8 0), .lit (.int .u8 0), .lit (.int .u8 0), .lit (.int .u8 0), .lit (.int .u8 0), .lit (.int .u8 0), .lit (.int .u8 0), .lit (.int .u8 0), .lit (.int .u8 0), .lit (.int .u8 0), .lit (.int .u8 0), .lit (.int .u8 0), .lit (.int .u8 0), .lit (.int .u8 0), .lit (.int .u8 0)], .lit (.int .i64 0), .lit (.int .i64 0)]], [], places) :=
  ⟨[], by kernel_rfl⟩

set_option maxRecDepth 100000 in
theorem scriptOps_lifted (os : Os) (started : os.Started) (H : Type) (enc : TypeId × Value → H) (F : Stop.Interp) :
    ReturnsInHanded {} Tryz.checked os 3 .any ((OpenSpec.ofChange Rows.scriptOpsSpec).preRow enc Tryz.prog Tryz.f3 Rows.scriptOpsRow.domain false Rows.scriptOpsRow.laid) (((OpenSpec.ofChange Rows.scriptOpsSpec).at F).post enc Tryz.prog Tryz.f3 false true false false) := by
  obtain ⟨places, hx⟩ := scriptOps_reads os enc
  refine returnsInHanded_of_row (C := Tryz.checked) (s := OpenSpec.ofChange Rows.scriptOpsSpec) own started (by kernel_rfl) Tryz.func3
    (witness_row_at (enc := enc) (C := Tryz.checked) false (aCm os) scriptOps_args rfl (by kernel_rfl) (by kernel_rfl) (by kernel_rfl)
      (OpenSpec.preRow_of_cond 8 hx (by kernel_rfl) (fun k hk => by cases hk) (by kernel_rfl) (scriptOps_met os))) ?_
  intro W base args ds gs before hval hW _ _ _ hL _ _
  exact scriptOps_contract H enc W base args ds gs before hval hW hL

theorem scriptOps_said : Rows.ScriptOpsSaid :=
  OpenClaim.holds_of_cond 3 Tryz.f3 rfl rfl rfl rfl rfl rfl rfl ⟨rfl, rfl, rfl, rfl, rfl⟩ rfl rfl rfl rfl rfl (by kernel_rfl) Tryz.func3 (by kernel_rfl)
    (of_decide_eq_true (by kernel_rfl)) (by unfold Func.isWrapper; first | (rw [if_pos (by decide +kernel)]; kernel_rfl) | (rw [if_neg (by decide +kernel)]; exact ⟨rfl, rfl⟩))
    (fun os started H enc _ F => by rw [OpenClaim.pre_eq_preRow]; exact scriptOps_lifted os started H enc F)

theorem scriptOps_plain (f : FuncId) (fn : Func) (hf : Tryz.pinned.checked.prog.funcNamed "lightclient/lightclientlaw08.ScriptOps" = some f) (hfn : Tryz.pinned.checked.prog.funcs[f]? = some fn) :
    false = Tryz.pinned.checked.prog.looks [] ∧ ∀ (j : Nat) t, fn.params[j]? = some t → Tryz.pinned.checked.prog.wantsStandIn t = false := by
  obtain rfl : f = 3 := Option.some.inj ((show Tryz.prog.funcNamed "lightclient/lightclientlaw08.ScriptOps" = some 3 by kernel_rfl).symm.trans hf) |>.symm
  obtain rfl : fn = Tryz.f3 := (Option.some.inj (Tryz.func3.symm.trans hfn)).symm
  refine ⟨by kernel_rfl, fun j t ht => ?_⟩
  rw [Tryz.params3] at ht
  have hm : t ∈ [22, 23, 27] := by simpa using Array.mem_of_getElem? ht
  have hall : ∀ u ∈ [22, 23, 27], Tryz.prog.wantsStandIn u = false := by
    intro u hu
    have : ([22, 23, 27].all fun u => !(Tryz.prog.wantsStandIn u)) = true := by kernel_rfl
    simpa using List.all_eq_true.1 this u hu
  exact hall t hm

theorem scriptOps_holds : Rows.ScriptOpsCardSaid :=
  Claim7.holds_tied_plain_at .later [] _ _ _ _ scriptOps_said (fun _ h => by cases h) (by kernel_rfl) (fun _ h => by cases h) scriptOps_row_tie rfl ⟨rfl, rfl⟩ (by kernel_rfl) rfl scriptOps_plain (by kernel_rfl)
end Go.Proofs.YtnllpckhipmpgaaGreatDoor
