/-
  THE LAW BitsRice: for every bit string and every number and length the law that AppendRice answers as the reference does returns true, never panics, and leaves its input as it was. No conditions.
-/
import Derived.Test.YtbcmdojknonpgaaPlain18g
import Derived.Test.YtbcmdojknonpgaaWk3
import Derived.Test.YtbcmdojknonpgaaLift2
set_option linter.unusedSimpArgs false
set_option linter.unusedVariables false
namespace Go.Proofs.Ytbcmdojknonpgaa
open Go Go.Vm
open Go.ChangeShapes Go.WideShapes Go.ChangeAt Go.RowKit

set_option maxRecDepth 100000 in
theorem bitsRice_lifted (os : Os) (started : os.Started) (H : Type) (enc : TypeId × Value → H) :
    ReturnsInHanded {} Try.checked os 4 .any (Rows.bitsRiceSpec.pre6 enc Try.prog Try.f4 Rows.bitsRiceRow.domain false) (Rows.bitsRiceSpec.post enc Try.prog Try.f4 false true false false) := by
  refine returnsInHanded_of_change (C := Try.checked) own started (by kernel_rfl) Try.func4
    (ChangeSpec.witness6 (enc := enc) (C := Try.checked) false ⟨#[], #[.agg #[.slice none 0 0, .int .i64 0], .int .u64 0, .int .i64 0], []⟩ 8 (by kernel_rfl) (by kernel_rfl) (by kernel_rfl) (by kernel_rfl)) ?_
  intro W base args ds gs before hval0 hW hcnd _
  have hval : ∀ (j : Nat) t v, Try.f4.params[j]? = some t → args[j]? = some v → Value.okWide Try.prog W .any base t v := hval0
  have hW' := hW
  obtain ⟨p, q, hA0, hV, rfl, hfz, hnd⟩ := hW
  have hA : DataW.TrodAll enc Try.prog W 0 (fun _ => true) true Try.f4.params.toList args.toList ds p := hA0
  rw [Try.params4] at hA hval
  have hA' := hA
  obtain ⟨v0, v1, v2, d0, d1, d2, p0, p1, p2, rfl, rfl, rfl, h0, h1, h2⟩ := trodAll_three hA
  obtain ⟨rfl, rfl⟩ := trodVars_none hV
  obtain ⟨l, N, hN, hb⟩ := open_bits (hval 0 24 v0 rfl rfl) h0
  obtain ⟨a, rfl, rfl, rfl, wa⟩ := open_int Try.underlying25 (hval 1 25 v1 rfl rfl) h1
  obtain ⟨n, rfl, rfl, rfl, wn⟩ := open_int Try.underlying3 (hval 2 3 v2 rfl rfl) h2
  clear hA0 hval0
  have hvs : VCells NoX [] W [bitsV none l N, .sc (.int .u64 a), .sc (.int .i64 n)] [v0, .int .u64 a, .int .i64 n] := VCells_cons hb (VCells_cons (VR_sc _) (VCells_cons (VR_sc _) VCells_nil))
  have ra : 0 ≤ a ∧ a < 18446744073709551616 := by simp [Lit.wf, IntKind.min, IntKind.max, IntKind.signed, IntKind.bits] at wa; omega
  have rn : -9223372036854775808 ≤ n ∧ n ≤ 9223372036854775807 := by simp [Lit.wf, IntKind.min, IntKind.max, IntKind.signed, IntKind.bits] at wn; omega
  have hfn := (law18_BitsRice_ok NN (intsOf l) N a n true (BitsRice_true NN (Nat.le_refl _) sane_true (intsOf l) N a n (intsOf_byt l) hN ra rn)).toP
  rw [← bytesV_eq] at hfn
  refine (calls_of_pfn (vs := [v0, .int .u64 a, .int .i64 n]) Try.func4 rfl (by kernel_rfl) hfn hvs).mono fun e W' ⟨he, bel⟩ => ?_
  subst he
  exact ⟨_, rfl, _, _, _, [], _, [], hW', trodAll_mk1 (shut_bool Try.underlying4 _), below_trodAll laidOut bel (readable_all (by kernel_rfl)) hA', rfl, bel.frame _, fun h => by cases h⟩

theorem bitsRice_holds : Rows.BitsRiceSaid :=
  OpenClaim.holds_of_wide 4 Try.f4 rfl rfl rfl rfl rfl rfl rfl ⟨rfl, rfl, rfl, rfl, rfl⟩ rfl rfl rfl rfl rfl (by kernel_rfl) Try.func4 (by kernel_rfl)
    (of_decide_eq_true (by kernel_rfl)) (by unfold Func.isWrapper; first | (rw [if_pos (by decide +kernel)]; kernel_rfl) | (rw [if_neg (by decide +kernel)]; exact ⟨rfl, rfl⟩))
    (fun os started H enc _ => bitsRice_lifted os started H enc)
end Go.Proofs.Ytbcmdojknonpgaa
