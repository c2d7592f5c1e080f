/-
  THE LAW BitsRiceBack: for every list of numbers and every parameter the law that numbers come back from their Rice codes one behind the other returns true, never panics, and leaves its input as it was. No conditions.
-/
import Derived.Test.YtbcmdojknonpgaaPlain18e
import Derived.Test.YtbcmdojknonpgaaWk2
import Derived.Test.YtbcmdojknonpgaaOpen
set_option linter.unusedSimpArgs false
set_option linter.unusedVariables false
namespace Go.Proofs.Ytbcmdojknonpgaa
open Go Go.Vm
open Go.ChangeShapes Go.WideShapes Go.ChangeAt Go.RowKit

set_option maxRecDepth 100000 in
theorem bitsRiceBack_lifted (os : Os) (started : os.Started) (H : Type) (enc : TypeId × Value → H) :
    ReturnsInHanded {} Try.checked os 8 .any (Rows.bitsRiceBackSpec.pre6 enc Try.prog Try.f8 Rows.bitsRiceBackRow.domain false) (Rows.bitsRiceBackSpec.post enc Try.prog Try.f8 false true false false) := by
  refine returnsInHanded_of_change (C := Try.checked) own started (by kernel_rfl) Try.func8
    (ChangeSpec.witness6 (enc := enc) (C := Try.checked) false ⟨#[], #[.slice none 0 0, .int .u8 0], []⟩ 8 (by kernel_rfl) (by kernel_rfl) (by kernel_rfl) (by kernel_rfl)) ?_
  intro W base args ds gs before hval0 hW hcnd _
  have hval : ∀ (j : Nat) t v, Try.f8.params[j]? = some t → args[j]? = some v → Value.okWide Try.prog W .any base t v := hval0
  have hW' := hW
  obtain ⟨p, q, hA0, hV, rfl, hfz, hnd⟩ := hW
  have hA : DataW.TrodAll enc Try.prog W 0 (fun _ => true) true Try.f8.params.toList args.toList ds p := hA0
  rw [Try.params8] at hA hval
  have hA' := hA
  obtain ⟨v0, v1, d0, d1, p0, p1, rfl, rfl, rfl, h0, h1⟩ := trodAll_two hA
  obtain ⟨rfl, rfl⟩ := trodVars_none hV
  obtain ⟨l, hl, hb⟩ := openV_slice Try.underlying37 (opens_int Try.underlying38) (K := 1) (by kernel_rfl) (by omega) (elem_one (fun _ => rfl)) (hval 0 37 v0 rfl rfl) h0
  obtain ⟨n, wn, hn⟩ := openV_int Try.underlying5 (hval 1 5 v1 rfl rfl) h1
  clear hA0 hval0
  have hvs : VCells NoX [] W [eL 1 (eI .u16) l, eI .u8 n] [v0, v1] := VCells_cons hb (VCells_cons hn VCells_nil)
  have rl : ∀ x ∈ l, 0 ≤ x ∧ x < 65536 := by
    intro x hx
    have := hl x hx
    simp [Lit.wf, IntKind.min, IntKind.max, IntKind.signed, IntKind.bits] at this; omega
  have rn : 0 ≤ n ∧ n < 256 := by simp [Lit.wf, IntKind.min, IntKind.max, IntKind.signed, IntKind.bits] at wn; omega
  have hfn := (law18_BitsRiceBack_ok NN none l n true (BitsRiceBack_true NN (Nat.le_refl _) sane_true l n rl rn)).toP
  refine (calls_of_pfn (vs := [v0, v1]) Try.func8 rfl (by kernel_rfl) hfn hvs).mono fun e W' ⟨he, bel⟩ => ?_
  subst he
  exact ⟨_, rfl, _, _, _, [], _, [], hW', trodAll_mk1 (shut_bool Try.underlying4 _), below_trodAll laidOut bel (readable_all (by kernel_rfl)) hA', rfl, bel.frame _, fun h => by cases h⟩

theorem bitsRiceBack_holds : Rows.BitsRiceBackSaid :=
  OpenClaim.holds_of_wide 8 Try.f8 rfl rfl rfl rfl rfl rfl rfl ⟨rfl, rfl, rfl, rfl, rfl⟩ rfl rfl rfl rfl rfl (by kernel_rfl) Try.func8 (by kernel_rfl)
    (of_decide_eq_true (by kernel_rfl)) (by unfold Func.isWrapper; first | (rw [if_pos (by decide +kernel)]; kernel_rfl) | (rw [if_neg (by decide +kernel)]; exact ⟨rfl, rfl⟩))
    (fun os started H enc _ => bitsRiceBack_lifted os started H enc)
end Go.Proofs.Ytbcmdojknonpgaa
