/-
  THE LAW AddressPrefix: for every text and all numbers the law that says which texts are prefixes returns true, never panics, and leaves its input as it was. No conditions.
-/
import Derived.Test.YtidkaiebgjbekaaPlain27d
import Derived.Test.YtidkaiebgjbekaaWk1
import Derived.Test.YtidkaiebgjbekaaOpen
set_option linter.unusedSimpArgs false
set_option linter.unusedVariables false
namespace Go.Proofs.Ytidkaiebgjbekaa
open Go Go.Vm
open Go.ChangeShapes Go.WideShapes Go.ChangeAt Go.RowKit

set_option maxRecDepth 100000 in
theorem addressPrefix_lifted (os : Os) (started : os.Started) (H : Type) (enc : TypeId × Value → H) :
    ReturnsInHanded {} Try.checked os 4 .any (Rows.addressPrefixSpec.pre6 enc Try.prog Try.f4 Rows.addressPrefixRow.domain false) (Rows.addressPrefixSpec.post enc Try.prog Try.f4 false true false false) := by
  refine returnsInHanded_of_change (C := Try.checked) own started (by kernel_rfl) Try.func4
    (ChangeSpec.witness6 (enc := enc) (C := Try.checked) false ⟨#[], #[.string ByteArray.empty, .int .i64 0, .int .i64 0, .int .i64 0], []⟩ 8 (by kernel_rfl) (by kernel_rfl) (by kernel_rfl) (by kernel_rfl)) ?_
  intro W base args ds gs before hval0 hW hcnd _
  have hval : ∀ (j : Nat) t v, Try.f4.params[j]? = some t → args[j]? = some v → Value.okWide Try.prog W .any base t v := hval0
  have hW' := hW
  obtain ⟨p, q, hA0, hV, rfl, hfz, hnd⟩ := hW
  have hA : DataW.TrodAll enc Try.prog W 0 (fun _ => true) true Try.f4.params.toList args.toList ds p := hA0
  rw [Try.params4] at hA hval
  have hA' := hA
  obtain ⟨v0, v1, v2, v3, d0, d1, d2, d3, p0, p1, p2, p3, rfl, rfl, rfl, h0, h1, h2, h3⟩ := trodAll_four hA
  obtain ⟨rfl, rfl⟩ := trodVars_none hV
  obtain ⟨s, ws, hs⟩ := openV_string Try.underlying9 (hval 0 9 v0 rfl rfl) h0
  obtain ⟨a, wa, ha⟩ := openV_int Try.underlying3 (hval 1 3 v1 rfl rfl) h1
  obtain ⟨b, wb, hb⟩ := openV_int Try.underlying3 (hval 2 3 v2 rfl rfl) h2
  obtain ⟨c, wc, hc⟩ := openV_int Try.underlying3 (hval 3 3 v3 rfl rfl) h3
  clear hA0 hval0
  have hvs : VCells NoX [] W [eS s, eI .i64 a, eI .i64 b, eI .i64 c] [v0, v1, v2, v3] := VCells_cons hs (VCells_cons ha (VCells_cons hb (VCells_cons hc VCells_nil)))
  have hfn := (law27_AddressPrefix_ok NN s a b c true (AddressPrefix_true s a b c)).toP
  refine (calls_of_pfn (vs := [v0, v1, v2, v3]) Try.func4 rfl (by kernel_rfl) hfn hvs).mono fun e W' ⟨he, bel⟩ => ?_
  subst he
  exact ⟨_, rfl, _, _, _, [], _, [], hW', trodAll_mk1 (shut_bool Try.underlying4 _), below_trodAll laidOut bel (readable_all (by kernel_rfl)) hA', rfl, bel.frame _, fun h => by cases h⟩

theorem addressPrefix_holds : Rows.AddressPrefixSaid :=
  OpenClaim.holds_of_wide 4 Try.f4 rfl rfl rfl rfl rfl rfl rfl ⟨rfl, rfl, rfl, rfl, rfl⟩ rfl rfl rfl rfl rfl (by kernel_rfl) Try.func4 (by kernel_rfl)
    (of_decide_eq_true (by kernel_rfl)) (by unfold Func.isWrapper; first | (rw [if_pos (by decide +kernel)]; kernel_rfl) | (rw [if_neg (by decide +kernel)]; exact ⟨rfl, rfl⟩))
    (fun os started H enc _ => addressPrefix_lifted os started H enc)
end Go.Proofs.Ytidkaiebgjbekaa
