/-
  THE LAW SpendFees: for all arguments the law that states fees, or the error returns true, never panics, and leaves its input as it was. No conditions.
-/
import Derived.WalkKit
import Derived.ProofKit
import Derived.OpenShut
import Derived.Test.YtbjiaiobpbpjoaaOpenS
import Derived.Test.YtbjiaiobpbpjoaaPlainW5
import Derived.Test.YtbjiaiobpbpjoaaWk3
set_option linter.unusedSimpArgs false
set_option linter.unusedVariables false
namespace Go.Proofs.Ytbjiaiobpbpjoaa
open Go Go.Vm
open Go.ChangeShapes Go.WideShapes Go.ChangeAt Go.RowKit

set_option maxRecDepth 100000 in
theorem spendFees_contract (H : Type) (enc : TypeId × Value → H) (W : World) (base : Nat) (args : Array Value) (ds gs : List (DataW H)) (before : List MemPlace)
    (hval : ∀ (j : Nat) t v, Try.f3.params[j]? = some t → args[j]? = some v → Value.okWide Try.prog W .any base t v)
    (hW : DataW.Whole enc Try.prog Try.f3.params.toList Rows.spendFeesSpec.vars false W args.toList ds gs before) :
    Calls Try.prog 3 args W fun e W' => ∃ v, e = .returned v ∧ Rows.spendFeesSpec.post enc Try.prog Try.f3 false true false false W args v W' := by
  have hW' := hW
  obtain ⟨p, q, hA0, hV, rfl, hfz, hnd⟩ := hW
  have hA : DataW.TrodAll enc Try.prog W 0 (fun _ => true) true Try.f3.params.toList args.toList ds p := hA0
  rw [Try.params3] at hA hval
  have hA' := hA
  obtain ⟨v0, vs0, d0, ds0, p0, q0, hargs0, rfl, rfl, h0, r0⟩ := trodAll_cons hA
  obtain ⟨v1, vs1, d1, ds1, p1, q1, hargs1, rfl, rfl, h1, r1⟩ := trodAll_cons r0
  obtain ⟨hz, rfl, rfl⟩ := trodAll_nil r1
  obtain rfl : args = #[v0, v1] := by
    subst hz
    subst hargs1
    apply Array.ext'
    exact hargs0
  obtain ⟨rfl, rfl⟩ := trodVars_none hV
  obtain ⟨a0, w0, g0⟩ := openV_struct Try.underlying26 opens_api_Tx (hval 0 26 v0 rfl rfl) h0
  obtain ⟨a1, w1, g1⟩ := openV_slice Try.underlying27 opens_api_Coin (by kernel_rfl) (by decide) (elem_agg (K := 37) (C := C_api_Coin) (fun _ => rfl) (fun _ => rfl)) (hval 1 27 v1 rfl rfl) h1
  clear hA0
  have hvs : VCells NoX [] W [.agg (C_api_Tx a0), eL 37 E_api_Coin a1] [v0, v1] := (VCells_cons g0 (VCells_cons g1 VCells_nil))
  have hfn := (law10_SpendFees_ok NN a0.Version a0.Inputs a0.Outputs a0.Lock a1 true (SpendFees_true a0.Version a0.Inputs a0.Outputs a0.Lock a1 (fun x hx => (w0.2.1 x hx).1.1.1))).toP
  refine (calls_of_pfn (vs := [v0, v1]) Try.func3 rfl (by kernel_rfl) hfn (fun _ _ h => by cases h) hvs).mono fun e W' ⟨he, bel⟩ => ?_
  subst he
  exact ⟨_, rfl, _, _, _, [], _, [], hW', trodAll_mk1 (shut_bool Try.underlying4 _), below_trodAll laidOut bel (readable_all (by kernel_rfl)) hA', rfl, bel.frame _, fun h => by cases h⟩

set_option maxRecDepth 100000 in
theorem spendFees_lifted (os : Os) (started : os.Started) (H : Type) (enc : TypeId × Value → H) :
    ReturnsInHanded {} Try.checked os 3 .any (Rows.spendFeesSpec.pre6 enc Try.prog Try.f3 Rows.spendFeesRow.domain false) (Rows.spendFeesSpec.post enc Try.prog Try.f3 false true false false) := by
  refine returnsInHanded_of_change (C := Try.checked) own started (by kernel_rfl) Try.func3
    (ChangeSpec.witness6 (enc := enc) (C := Try.checked) false ⟨#[], #[.agg #[.int .u32 0, .slice none 0 0, .slice none 0 0, .int .u32 0], .slice none 0 0], []⟩ 8 (by kernel_rfl) (by kernel_rfl) (by kernel_rfl) (by kernel_rfl)) ?_
  intro W base args ds gs before hval hW _ _
  exact spendFees_contract H enc W base args ds gs before hval hW

theorem spendFees_holds : Rows.SpendFeesSaid :=
  OpenClaim.holds_of_wide 3 Try.f3 rfl rfl rfl rfl rfl rfl rfl ⟨rfl, rfl, rfl, rfl, rfl⟩ rfl rfl rfl rfl rfl (by kernel_rfl) Try.func3 (by kernel_rfl)
    (of_decide_eq_true (by kernel_rfl)) (by unfold Func.isWrapper; first | (rw [if_pos (by decide +kernel)]; kernel_rfl) | (rw [if_neg (by decide +kernel)]; exact ⟨rfl, rfl⟩))
    (fun os started H enc _ => spendFees_lifted os started H enc)
end Go.Proofs.Ytbjiaiobpbpjoaa
