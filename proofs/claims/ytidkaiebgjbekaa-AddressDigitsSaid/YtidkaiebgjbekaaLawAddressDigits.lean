/-
  THE LAW AddressDigits: for all bytes and digits the law that says which digits bytes are and which bytes digits are returns true, never panics, and leaves its input as it was. No conditions.
-/
import Derived.Test.YtidkaiebgjbekaaPlain27c
import Derived.Test.YtidkaiebgjbekaaWk1
import Derived.Test.YtidkaiebgjbekaaOpen
set_option linter.unusedSimpArgs false
set_option linter.unusedVariables false
namespace Go.Proofs.Ytidkaiebgjbekaa
open Go Go.Vm
open Go.ChangeShapes Go.WideShapes Go.ChangeAt Go.RowKit

set_option maxRecDepth 100000 in
theorem addressDigits_lifted (os : Os) (started : os.Started) (H : Type) (enc : TypeId × Value → H) :
    ReturnsInHanded {} Try.checked os 3 .any (Rows.addressDigitsSpec.pre6 enc Try.prog Try.f3 Rows.addressDigitsRow.domain false) (Rows.addressDigitsSpec.post enc Try.prog Try.f3 false true false false) := by
  refine returnsInHanded_of_change (C := Try.checked) own started (by kernel_rfl) Try.func3
    (ChangeSpec.witness6 (enc := enc) (C := Try.checked) false ⟨#[], #[.slice none 0 0, .slice none 0 0], []⟩ 8 (by kernel_rfl) (by kernel_rfl) (by kernel_rfl) (by kernel_rfl)) ?_
  intro W base args ds gs before hval0 hW hcnd _
  have hval : ∀ (j : Nat) t v, Try.f3.params[j]? = some t → args[j]? = some v → Value.okWide Try.prog W .any base t v := hval0
  have hW' := hW
  obtain ⟨p, q, hA0, hV, rfl, hfz, hnd⟩ := hW
  have hA : DataW.TrodAll enc Try.prog W 0 (fun _ => true) true Try.f3.params.toList args.toList ds p := hA0
  rw [Try.params3] at hA hval
  have hA' := hA
  obtain ⟨v0, v1, d0, d1, p0, p1, rfl, rfl, rfl, h0, h1⟩ := trodAll_two hA
  obtain ⟨rfl, rfl⟩ := trodVars_none hV
  obtain ⟨l, hl, hb⟩ := openV_slice Try.underlying22 (opens_int Try.underlying5) (K := 1) (by kernel_rfl) (by omega) (elem_one (fun _ => rfl)) (hval 0 22 v0 rfl rfl) h0
  obtain ⟨d, hd, hc⟩ := openV_slice Try.underlying22 (opens_int Try.underlying5) (K := 1) (by kernel_rfl) (by omega) (elem_one (fun _ => rfl)) (hval 1 22 v1 rfl rfl) h1
  clear hA0 hval0
  have hvs : VCells NoX [] W [eL 1 (eI .u8) l, eL 1 (eI .u8) d] [v0, v1] := VCells_cons hb (VCells_cons hc VCells_nil)
  have rl : ∀ l : List Int, (∀ x ∈ l, (Lit.int .u8 x).wf = true) → Byt l := by
    intro l hl x hx
    have := hl x hx
    simp [Lit.wf, IntKind.min, IntKind.max, IntKind.signed, IntKind.bits] at this; omega
  have hfn := (law27_AddressDigits_ok NN l d true (AddressDigits_true NN (Nat.le_refl _) sane_true l d (rl l hl) (rl d hd))).toP
  refine (calls_of_pfn (vs := [v0, v1]) Try.func3 rfl (by kernel_rfl) hfn hvs).mono fun e W' ⟨he, bel⟩ => ?_
  subst he
  exact ⟨_, rfl, _, _, _, [], _, [], hW', trodAll_mk1 (shut_bool Try.underlying4 _), below_trodAll laidOut bel (readable_all (by kernel_rfl)) hA', rfl, bel.frame _, fun h => by cases h⟩

theorem addressDigits_holds : Rows.AddressDigitsSaid :=
  OpenClaim.holds_of_wide 3 Try.f3 rfl rfl rfl rfl rfl rfl rfl ⟨rfl, rfl, rfl, rfl, rfl⟩ rfl rfl rfl rfl rfl (by kernel_rfl) Try.func3 (by kernel_rfl)
    (of_decide_eq_true (by kernel_rfl)) (by unfold Func.isWrapper; first | (rw [if_pos (by decide +kernel)]; kernel_rfl) | (rw [if_neg (by decide +kernel)]; exact ⟨rfl, rfl⟩))
    (fun os started H enc _ => addressDigits_lifted os started H enc)
end Go.Proofs.Ytidkaiebgjbekaa
