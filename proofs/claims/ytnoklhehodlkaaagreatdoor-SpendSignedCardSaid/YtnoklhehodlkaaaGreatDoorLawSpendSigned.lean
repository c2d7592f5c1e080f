/-
  THE LAW SpendSigned: for all arguments the law that states that a transaction whose inputs are signed over their messages is accepted, and refused with another value returns true, never panics, and leaves its input as it was. The two listed variables, sha.k and sha.initial, are laid as the pruned copy of the project has them.
-/
import Derived.Test.YtnoklhehodlkaaaGreatDoorQSpendSigned7
set_option linter.unusedSimpArgs false
set_option linter.unusedVariables false
namespace Go.Proofs.YtnoklhehodlkaaaGreatDoor
open Go Go.Vm
open Go.ChangeShapes Go.WideShapes Go.ChangeAt Go.RowKit

set_option maxRecDepth 100000 in
theorem spendSigned_contract (H : Type) (enc : TypeId × Value → H) (W : World) (base : Nat) (args : Array Value) (ds gs : List (DataW H)) (before : List MemPlace)
    (hval : ∀ (j : Nat) t v, Tryz.f4.params[j]? = some t → args[j]? = some v → Value.okWide Tryz.prog W .any base t v)
    (hW : DataW.Whole enc Tryz.prog Tryz.f4.params.toList Rows.spendSignedSpec.vars false W args.toList ds gs before) (hL : laidMetH Tryz.prog Rows.spendSignedRow.laid W) :
    Calls Tryz.prog 4 args W fun e W' => ∃ v, e = .returned v ∧ Rows.spendSignedSpec.post enc Tryz.prog Tryz.f4 false true false false W args v W' := by
  have hW' := hW
  obtain ⟨p, q, hA0, hV, rfl, hfz, hnd⟩ := hW
  have hA : DataW.TrodAll enc Tryz.prog W 0 (fun _ => true) true Tryz.f4.params.toList args.toList ds p := hA0
  rw [Tryz.params4] at hA hval
  have hA' := hA
  obtain ⟨v0, vs0, d0, ds0, p0, q0, hargs0, rfl, rfl, h0, r0⟩ := trodAll_cons hA
  obtain ⟨v1, vs1, d1, ds1, p1, q1, hargs1, rfl, rfl, h1, r1⟩ := trodAll_cons r0
  obtain ⟨v2, vs2, d2, ds2, p2, q2, hargs2, rfl, rfl, h2, r2⟩ := trodAll_cons r1
  obtain ⟨hz, rfl, rfl⟩ := trodAll_nil r2
  obtain rfl : args = #[v0, v1, v2] := by
    subst hz
    subst hargs2
    subst hargs1
    apply Array.ext'
    exact hargs0
  obtain ⟨rfl, rfl⟩ := trodVars_none hV
  obtain ⟨a0, w0, g0⟩ := aKH Tryz.underlying22 (nR Tryz.underlying5) (by kernel_rfl) (by decide) (aDO (E := (eI .u8)) fun _ => rfl) (hval 0 22 v0 rfl rfl) h0
  obtain ⟨a1, w1, g1⟩ := aIZ Tryz.underlying54 aJQ (hval 1 54 v1 rfl rfl) h1
  obtain ⟨a2, w2, g2⟩ := aMU Tryz.underlying5 (hval 2 5 v2 rfl rfl) h2
  clear hA0
  have hvs : VCells uT [] W [eL 1 (eI .u8) a0, .agg (aAo a1), eI .u8 a2] [v0, v1, v2] := (lZ g0 (lZ g1 (lZ g2 sD)))
  have hfn := (aDG (show nI NN a0 a1.Version a1.Inputs a1.Outputs a1.Lock a2 = some true from (aFB _ _ _ _ _ _ (aHL w0) (fun o ho => aHL (w1.2.2.1 o ho).2) (aOp w2)))).toP
  refine (aJ8 (vs := [v0, v1, v2]) Tryz.func4 rfl (by kernel_rfl) hfn (aRI hL) hvs).mono fun e W' ⟨he, bel⟩ => ?_
  subst he
  exact ⟨_, rfl, _, _, _, [], _, [], hW', trodAll_mk1 (shut_bool Tryz.underlying4 _), aDR aQf bel (aJc (by kernel_rfl)) hA', rfl, bel.frame _, fun h => by cases h⟩

theorem spendSigned_met (os : Os) : laidMet Tryz.prog Rows.spendSignedRow.laid ((aEO os).forCall (fun _ _ => 0) ⟨#[], #[.slice none 0 0, .agg #[.int .u32 0, .slice none 0 0, .slice none 0 0, .int .u32 0], .int .u8 0], []⟩).memory :=
  laidMet_of_run' 8 (by kernel_rfl) (by kernel_rfl)
theorem spendSigned_reads (os : Os) {H : Type} (enc : TypeId × Value → H) : ∃ places, DataW.whole enc Tryz.prog ((aEO os).forCall (fun _ _ => 0) ⟨#[], #[.slice none 0 0, .agg #[.int .u32 0, .slice none 0 0, .slice none 0 0, .int .u32 0], .int .u8 0], []⟩).memory Tryz.f4.params.toList Rows.spendSignedSpec.vars false (#[.slice none 0 0, .agg #[.int .u32 0, .slice none 0 0, .slice none 0 0, .int .u32 0], .int .u8 0] : Array Value).toList 8 = some ([.nil, .agg [.lit (.int .u32 0), .nil, .nil, .lit (.int .u32 0)], .lit (.int .u8 0)], [], places) :=
  ⟨[], by kernel_rfl⟩

set_option maxRecDepth 100000 in
theorem spendSigned_lifted (os : Os) (started : os.Started) (H : Type) (enc : TypeId × Value → H) (F : Stop.Interp) :
    ReturnsInHanded {} Tryz.checked os 4 .any ((OpenSpec.ofChange Rows.spendSignedSpec).preRow enc Tryz.prog Tryz.f4 Rows.spendSignedRow.domain false Rows.spendSignedRow.laid) (((OpenSpec.ofChange Rows.spendSignedSpec).at F).post enc Tryz.prog Tryz.f4 false true false false) := by
  obtain ⟨places, hx⟩ := spendSigned_reads os enc
  refine returnsInHanded_of_row (C := Tryz.checked) (s := OpenSpec.ofChange Rows.spendSignedSpec) own started (by kernel_rfl) Tryz.func4
    (witness_row_at (enc := enc) (C := Tryz.checked) false (aEO os) #[.slice none 0 0, .agg #[.int .u32 0, .slice none 0 0, .slice none 0 0, .int .u32 0], .int .u8 0] rfl (by kernel_rfl) (by kernel_rfl) (by kernel_rfl)
      (OpenSpec.preRow_of_cond 8 hx (by kernel_rfl) (fun k hk => by cases hk) (by kernel_rfl) (spendSigned_met os))) ?_
  intro W base args ds gs before hval hW _ _ _ hL _ _
  exact spendSigned_contract H enc W base args ds gs before hval hW hL

theorem spendSigned_said : Rows.SpendSignedSaid :=
  OpenClaim.holds_of_cond 4 Tryz.f4 rfl rfl rfl rfl rfl rfl rfl ⟨rfl, rfl, rfl, rfl, rfl⟩ rfl rfl rfl rfl rfl (by kernel_rfl) Tryz.func4 (by kernel_rfl)
    (of_decide_eq_true (by kernel_rfl)) (by unfold Func.isWrapper; first | (rw [if_pos (by decide +kernel)]; kernel_rfl) | (rw [if_neg (by decide +kernel)]; exact ⟨rfl, rfl⟩))
    (fun os started H enc _ F => by rw [OpenClaim.pre_eq_preRow]; exact spendSigned_lifted os started H enc F)

theorem spendSigned_plain (f : FuncId) (fn : Func) (hf : Tryz.pinned.checked.prog.funcNamed "lightclient/lightclientlaw10.SpendSigned" = some f) (hfn : Tryz.pinned.checked.prog.funcs[f]? = some fn) :
    false = Tryz.pinned.checked.prog.looks [] ∧ ∀ (j : Nat) t, fn.params[j]? = some t → Tryz.pinned.checked.prog.wantsStandIn t = false := by
  obtain rfl : f = 4 := Option.some.inj ((show Tryz.prog.funcNamed "lightclient/lightclientlaw10.SpendSigned" = some 4 by kernel_rfl).symm.trans hf) |>.symm
  obtain rfl : fn = Tryz.f4 := (Option.some.inj (Tryz.func4.symm.trans hfn)).symm
  refine ⟨by kernel_rfl, fun j t ht => ?_⟩
  rw [Tryz.params4] at ht
  have hm : t ∈ [22, 54, 5] := by simpa using Array.mem_of_getElem? ht
  have hall : ∀ u ∈ [22, 54, 5], Tryz.prog.wantsStandIn u = false := by
    intro u hu
    have : ([22, 54, 5].all fun u => !(Tryz.prog.wantsStandIn u)) = true := by kernel_rfl
    simpa using List.all_eq_true.1 this u hu
  exact hall t hm

theorem spendSigned_holds : Rows.SpendSignedCardSaid :=
  Claim7.holds_tied_plain_at .later [] _ _ _ _ spendSigned_said (fun _ h => by cases h) (by kernel_rfl) (fun _ h => by cases h) spendSigned_row_tie rfl ⟨rfl, rfl⟩ (by kernel_rfl) rfl spendSigned_plain (by kernel_rfl)
end Go.Proofs.YtnoklhehodlkaaaGreatDoor
