/-
  THE LAW ScriptSigned: for all arguments the law that states that the standard scripts of keys are satisfied by signatures of their secrets returns true, never panics, and leaves its input as it was. The two listed variables, sha.k and sha.initial, are laid as the pruned copy of the project has them.
-/
import Derived.Test.YtnoklhehodlkaaaGreatDoorQScriptSigned7
set_option linter.unusedSimpArgs false
set_option linter.unusedVariables false
namespace Go.Proofs.YtnoklhehodlkaaaGreatDoor
open Go Go.Vm
open Go.ChangeShapes Go.WideShapes Go.ChangeAt Go.RowKit

abbrev scriptSigned_args : Array Value := #[.slice none 0 0, .int .u8 0, .agg #[.int .u8 0, .int .u8 0, .int .u8 0, .int .u8 0, .int .u8 0, .int .u8 0, .int .u8 0, .int .u8 0, .int .u8 0, .int .u8 0, .int .u8 0, .int .u8 0, .int .u8 0, .int .u8 0, .int .u8 0, .int .u8 0, .int .u8 0, .int .u8 0, .int .u8 0, .int .u8 0, .int .u8 0, .int .u8 0, .int .u8 0, .int .u8 0, .int .u8 0, .int .u8 0, .int .u8 0, .int .u8 0, .int .u8 0, .int .u8 0, .int .u8 0, .int .u8 0], .int .u16 0]
set_option maxRecDepth 100000 in
theorem scriptSigned_contract (H : Type) (enc : TypeId × Value → H) (W : World) (base : Nat) (args : Array Value) (ds gs : List (DataW H)) (before : List MemPlace)
    (hval : ∀ (j : Nat) t v, Tryz.f3.params[j]? = some t → args[j]? = some v → Value.okWide Tryz.prog W .any base t v)
    (hW : DataW.Whole enc Tryz.prog Tryz.f3.params.toList Rows.scriptSignedSpec.vars false W args.toList ds gs before) (hL : laidMetH Tryz.prog Rows.scriptSignedRow.laid W) :
    Calls Tryz.prog 3 args W fun e W' => ∃ v, e = .returned v ∧ Rows.scriptSignedSpec.post enc Tryz.prog Tryz.f3 false true false false W args v W' := by
  have hW' := hW
  obtain ⟨p, q, hA0, hV, rfl, hfz, hnd⟩ := hW
  have hA : DataW.TrodAll enc Tryz.prog W 0 (fun _ => true) true Tryz.f3.params.toList args.toList ds p := hA0
  rw [Tryz.params3] at hA hval
  have hA' := hA
  obtain ⟨v0, vs0, d0, ds0, p0, q0, hargs0, rfl, rfl, h0, r0⟩ := trodAll_cons hA
  obtain ⟨v1, vs1, d1, ds1, p1, q1, hargs1, rfl, rfl, h1, r1⟩ := trodAll_cons r0
  obtain ⟨v2, vs2, d2, ds2, p2, q2, hargs2, rfl, rfl, h2, r2⟩ := trodAll_cons r1
  obtain ⟨v3, vs3, d3, ds3, p3, q3, hargs3, rfl, rfl, h3, r3⟩ := trodAll_cons r2
  obtain ⟨hz, rfl, rfl⟩ := trodAll_nil r3
  obtain rfl : args = #[v0, v1, v2, v3] := by
    subst hz
    subst hargs3
    subst hargs2
    subst hargs1
    apply Array.ext'
    exact hargs0
  obtain ⟨rfl, rfl⟩ := trodVars_none hV
  obtain ⟨a0, w0, g0⟩ := aHe Tryz.underlying22 (aBM Tryz.underlying5) (by kernel_rfl) (by decide) (aK6 (E := (eI .u8)) fun _ => rfl) (hval 0 22 v0 rfl rfl) h0
  obtain ⟨a1, w1, g1⟩ := aFt Tryz.underlying5 (hval 1 5 v1 rfl rfl) h1
  obtain ⟨a2, w2, g2⟩ := aJp Tryz.underlying24 Tryz.underlying5 (by kernel_rfl) (by kernel_rfl) (hval 2 24 v2 rfl rfl) h2
  obtain ⟨a3, w3, g3⟩ := aFt Tryz.underlying25 (hval 3 25 v3 rfl rfl) h3
  clear hA0
  have hvs : VCells yF [] W [eL 1 (eI .u8) a0, eI .u8 a1, eA (eI .u8) a2, eI .u16 a3] [v0, v1, v2, v3] := (kQ g0 (kQ g1 (kQ g2 (kQ g3 sY))))
  have hfn := (aAB (show i4 NN a0 a1 a2 a3 = some true from (aCC _ _ _ _ (aFm w0) (aKD w1) w2.1 (aFm w2.2) (aJh w3)))).toP
  refine (aFS (vs := [v0, v1, v2, v3]) Tryz.func3 rfl (by kernel_rfl) hfn (aNU hL) hvs).mono fun e W' ⟨he, bel⟩ => ?_
  subst he
  exact ⟨_, rfl, _, _, _, [], _, [], hW', trodAll_mk1 (shut_bool Tryz.underlying4 _), aBt aLA bel (aGe (by kernel_rfl)) hA', rfl, bel.frame _, fun h => by cases h⟩

theorem scriptSigned_met (os : Os) : laidMet Tryz.prog Rows.scriptSignedRow.laid ((aBD os).forCall (fun _ _ => 0) ⟨#[], scriptSigned_args, []⟩).memory :=
  laidMet_of_run' 8 (by kernel_rfl) (by kernel_rfl)
theorem scriptSigned_reads (os : Os) {H : Type} (enc : TypeId × Value → H) : ∃ places, DataW.whole enc Tryz.prog ((aBD os).forCall (fun _ _ => 0) ⟨#[], scriptSigned_args, []⟩).memory Tryz.f3.params.toList Rows.scriptSignedSpec.vars false (scriptSigned_args : Array Value).toList 8 = some ([.nil, .lit (.int .u8 0), .agg [.lit (.int .u8 0), .lit (.int .u8 0), .lit (.int .u8 0), .lit (.int .u8 0), .lit (.int .u8 0), .lit (.int .u8 0), .lit (.int .u8 0), .lit (.int .u8 0), .lit (.int .u8 0), .lit (.int .u8 0), .lit (.int .u8 0), .lit (.int .u8 0), .lit (.int .u8 0), .lit (.int .u8 0), .lit (.int .u8 0), .lit (.int .u8 0), .lit (.int .u8 0), .lit (.int .u8 0), .lit (.int .u8 0), .lit (.int .u8 0), .lit (.int .u8 0), .lit (.int .u8 0), .lit (.int .u8 0), .lit (.int .u8 0), .lit (.int .u8 0), .lit (.int .u8 0), .lit (.int .u8 0), .lit (.int .u8 0), .lit (.int .u8 0), .lit (.int .u8 0), .lit (.int .u8 0), .lit (.int .u8 0)], .lit (.int .u16 0)], [], places) :=
  ⟨[], by kernel_rfl⟩

set_option maxRecDepth 100000 in
theorem scriptSigned_lifted (os : Os) (started : os.Started) (H : Type) (enc : TypeId × Value → H) (F : Stop.Interp) :
    ReturnsInHanded {} Tryz.checked os 3 .any ((OpenSpec.ofChange Rows.scriptSignedSpec).preRow enc Tryz.prog Tryz.f3 Rows.scriptSignedRow.domain false Rows.scriptSignedRow.laid) (((OpenSpec.ofChange Rows.scriptSignedSpec).at F).post enc Tryz.prog Tryz.f3 false true false false) := by
  obtain ⟨places, hx⟩ := scriptSigned_reads os enc
  refine returnsInHanded_of_row (C := Tryz.checked) (s := OpenSpec.ofChange Rows.scriptSignedSpec) own started (by kernel_rfl) Tryz.func3
    (witness_row_at (enc := enc) (C := Tryz.checked) false (aBD os) scriptSigned_args rfl (by kernel_rfl) (by kernel_rfl) (by kernel_rfl)
      (OpenSpec.preRow_of_cond 8 hx (by kernel_rfl) (fun k hk => by cases hk) (by kernel_rfl) (scriptSigned_met os))) ?_
  intro W base args ds gs before hval hW _ _ _ hL _ _
  exact scriptSigned_contract H enc W base args ds gs before hval hW hL

theorem scriptSigned_said : Rows.ScriptSignedSaid :=
  OpenClaim.holds_of_cond 3 Tryz.f3 rfl rfl rfl rfl rfl rfl rfl ⟨rfl, rfl, rfl, rfl, rfl⟩ rfl rfl rfl rfl rfl (by kernel_rfl) Tryz.func3 (by kernel_rfl)
    (of_decide_eq_true (by kernel_rfl)) (by unfold Func.isWrapper; first | (rw [if_pos (by decide +kernel)]; kernel_rfl) | (rw [if_neg (by decide +kernel)]; exact ⟨rfl, rfl⟩))
    (fun os started H enc _ F => by rw [OpenClaim.pre_eq_preRow]; exact scriptSigned_lifted os started H enc F)

theorem scriptSigned_plain (f : FuncId) (fn : Func) (hf : Tryz.pinned.checked.prog.funcNamed "lightclient/lightclientlaw08.ScriptSigned" = some f) (hfn : Tryz.pinned.checked.prog.funcs[f]? = some fn) :
    false = Tryz.pinned.checked.prog.looks [] ∧ ∀ (j : Nat) t, fn.params[j]? = some t → Tryz.pinned.checked.prog.wantsStandIn t = false := by
  obtain rfl : f = 3 := Option.some.inj ((show Tryz.prog.funcNamed "lightclient/lightclientlaw08.ScriptSigned" = some 3 by kernel_rfl).symm.trans hf) |>.symm
  obtain rfl : fn = Tryz.f3 := (Option.some.inj (Tryz.func3.symm.trans hfn)).symm
  refine ⟨by kernel_rfl, fun j t ht => ?_⟩
  rw [Tryz.params3] at ht
  have hm : t ∈ [22, 5, 24, 25] := by simpa using Array.mem_of_getElem? ht
  have hall : ∀ u ∈ [22, 5, 24, 25], Tryz.prog.wantsStandIn u = false := by
    intro u hu
    have : ([22, 5, 24, 25].all fun u => !(Tryz.prog.wantsStandIn u)) = true := by kernel_rfl
    simpa using List.all_eq_true.1 this u hu
  exact hall t hm

theorem scriptSigned_holds : Rows.ScriptSignedCardSaid :=
  Claim7.holds_tied_plain_at .later [] _ _ _ _ scriptSigned_said (fun _ h => by cases h) (by kernel_rfl) (fun _ h => by cases h) scriptSigned_row_tie rfl ⟨rfl, rfl⟩ (by kernel_rfl) rfl scriptSigned_plain (by kernel_rfl)
end Go.Proofs.YtnoklhehodlkaaaGreatDoor
