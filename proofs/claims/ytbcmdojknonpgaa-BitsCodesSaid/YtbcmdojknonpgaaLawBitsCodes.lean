/-
  THE LAW BitsCodes: for every bit string and every place and parameter the law that a number that is read has a Rice code that stands at its place returns true, never panics, and leaves its input as it was. No conditions.
-/
import Derived.Test.YtbcmdojknonpgaaPlain18e
import Derived.Test.YtbcmdojknonpgaaWk2
import Derived.Test.YtbcmdojknonpgaaLift2
set_option linter.unusedSimpArgs false
set_option linter.unusedVariables false
namespace Go.Proofs.Ytbcmdojknonpgaa
open Go Go.Vm
open Go.ChangeShapes Go.WideShapes Go.ChangeAt Go.RowKit

set_option maxRecDepth 100000 in
theorem bitsCodes_lifted (os : Os) (started : os.Started) (H : Type) (enc : TypeId × Value → H) :
    ReturnsInHanded {} Try.checked os 9 .any (Rows.bitsCodesSpec.pre6 enc Try.prog Try.f9 Rows.bitsCodesRow.domain false) (Rows.bitsCodesSpec.post enc Try.prog Try.f9 false true false false) := by
  refine returnsInHanded_of_change (C := Try.checked) own started (by kernel_rfl) Try.func9
    (ChangeSpec.witness6 (enc := enc) (C := Try.checked) false ⟨#[], #[.agg #[.slice none 0 0, .int .i64 0], .int .u8 0, .int .u8 0], []⟩ 8 (by kernel_rfl) (by kernel_rfl) (by kernel_rfl) (by kernel_rfl)) ?_
  intro W base args ds gs before hval0 hW hcnd _
  have hval : ∀ (j : Nat) t v, Try.f9.params[j]? = some t → args[j]? = some v → Value.okWide Try.prog W .any base t v := hval0
  have hW' := hW
  obtain ⟨p, q, hA0, hV, rfl, hfz, hnd⟩ := hW
  have hA : DataW.TrodAll enc Try.prog W 0 (fun _ => true) true Try.f9.params.toList args.toList ds p := hA0
  rw [Try.params9] at hA hval
  have hA' := hA
  obtain ⟨v0, v1, v2, d0, d1, d2, p0, p1, p2, rfl, rfl, rfl, h0, h1, h2⟩ := trodAll_three hA
  obtain ⟨rfl, rfl⟩ := trodVars_none hV
  obtain ⟨l, N, hN, hb⟩ := open_bits (hval 0 24 v0 rfl rfl) h0
  obtain ⟨a, rfl, rfl, rfl, wa⟩ := open_int Try.underlying5 (hval 1 5 v1 rfl rfl) h1
  obtain ⟨n, rfl, rfl, rfl, wn⟩ := open_int Try.underlying5 (hval 2 5 v2 rfl rfl) h2
  clear hA0 hval0
  have hvs : VCells NoX [] W [bitsV none l N, .sc (.int .u8 a), .sc (.int .u8 n)] [v0, .int .u8 a, .int .u8 n] := VCells_cons hb (VCells_cons (VR_sc _) (VCells_cons (VR_sc _) VCells_nil))
  have ra : 0 ≤ a ∧ a < 256 := by simp [Lit.wf, IntKind.min, IntKind.max, IntKind.signed, IntKind.bits] at wa; omega
  have rn : 0 ≤ n ∧ n < 256 := by simp [Lit.wf, IntKind.min, IntKind.max, IntKind.signed, IntKind.bits] at wn; omega
  have hfn := (law18_BitsCodes_ok NN none (intsOf l) N a n true (BitsCodes_true NN (Nat.le_refl _) sane_true (intsOf l) N a n (intsOf_byt l) hN ra rn)).toP
  rw [← bytesV_eq] at hfn
  refine (calls_of_pfn (vs := [v0, .int .u8 a, .int .u8 n]) Try.func9 rfl (by kernel_rfl) hfn hvs).mono fun e W' ⟨he, bel⟩ => ?_
  subst he
  exact ⟨_, rfl, _, _, _, [], _, [], hW', trodAll_mk1 (shut_bool Try.underlying4 _), below_trodAll laidOut bel (readable_all (by kernel_rfl)) hA', rfl, bel.frame _, fun h => by cases h⟩

theorem bitsCodes_holds : Rows.BitsCodesSaid :=
  OpenClaim.holds_of_wide 9 Try.f9 rfl rfl rfl rfl rfl rfl rfl ⟨rfl, rfl, rfl, rfl, rfl⟩ rfl rfl rfl rfl rfl (by kernel_rfl) Try.func9 (by kernel_rfl)
    (of_decide_eq_true (by kernel_rfl)) (by unfold Func.isWrapper; first | (rw [if_pos (by decide +kernel)]; kernel_rfl) | (rw [if_neg (by decide +kernel)]; exact ⟨rfl, rfl⟩))
    (fun os started H enc _ => bitsCodes_lifted os started H enc)
end Go.Proofs.Ytbcmdojknonpgaa
