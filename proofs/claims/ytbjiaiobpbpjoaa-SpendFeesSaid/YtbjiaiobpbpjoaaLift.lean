import Derived.Test.YtbjiaiobpbpjoaaVmLift
import Derived.Test.YtbjiaiobpbpjoaaTy
set_option linter.unusedSimpArgs false
set_option linter.unusedVariables false
namespace Go.Vm
open Go Go.ChangeShapes Go.WideShapes Go.ChangeAt Go.RowKit
section
variable {X : Nat → Prop} {M : List (Option Nat)} {w : World}
theorem VR_sc (c : Value) : VR X M w (.sc c) c := by unfold VR; rfl
theorem VCells_nil : VCells X M w [] [] := by unfold VCells; rfl
theorem VCells_cons {c : V} {v : Value} {cs : List V} {vs : List Value} (h : VR X M w c v) (k : VCells X M w cs vs) : VCells X M w (c :: cs) (v :: vs) := by unfold VCells; exact ⟨v, vs, rfl, h, k⟩
theorem VR_agg {cs : List V} {vs : List Value} (k : VCells X M w cs vs) : VR X M w (.agg cs) (.agg vs.toArray) := by unfold VR; exact ⟨vs, rfl, k⟩
theorem readable_all {P : Program} {ts : List TypeId} (h : (ts.all fun t => P.readableRec t && decide (t < P.types.size)) = true) : ∀ t ∈ ts, P.readableRec t = true ∧ t < P.types.size := by
  intro t ht
  have := List.all_eq_true.1 h t ht
  simp only [Bool.and_eq_true, decide_eq_true_eq] at this
  exact this
/-- An integer of Go's int. -/
def I64 (x : Int) : Prop := -9223372036854775808 ≤ x ∧ x ≤ 9223372036854775807
theorem I64.of_wf {x : Int} (h : (Lit.int .i64 x).wf = true) : I64 x := by
  simp [Lit.wf, IntKind.min, IntKind.max, IntKind.signed, IntKind.bits] at h
  exact ⟨by omega, by omega⟩
end
end Go.Vm
namespace Go.Proofs.Ytbjiaiobpbpjoaa
open Go Go.Vm
open Go.ChangeShapes Go.WideShapes Go.ChangeAt Go.RowKit

theorem own : ownKnob Try.prog.godebug = none := by kernel_rfl
theorem laidOut : laidOutB Try.prog = true := by kernel_rfl
end Go.Proofs.Ytbjiaiobpbpjoaa
