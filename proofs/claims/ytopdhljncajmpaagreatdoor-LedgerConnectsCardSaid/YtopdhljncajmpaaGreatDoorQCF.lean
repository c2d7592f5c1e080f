/- The closed facts of the law, checked one by one. -/
import Derived.Test.YtopdhljncajmpaaGreatDoorQC2
set_option linter.unusedSimpArgs false
set_option linter.unusedVariables false
set_option maxHeartbeats 8000000
namespace Go.Proofs.YtopdhljncajmpaaGreatDoor
open Go Go.Vm
open Go.ChangeShapes Go.WideShapes Go.ChangeAt Go.RowKit
theorem gt_and {a b : Bool} (h : a = true) (k : b = true) : (a && b) = true := by rw [h, k]; rfl
set_option maxRecDepth 100000 in
theorem ledgerConnects_closed : joinedFacts Tryz.prog 3 Tryz.f3 (OpenSpec.ofChange Rows.ledgerConnectsSpec).bare Rows.ledgerConnectsRow = true := by
  unfold joinedFacts
  repeat' (with_reducible refine gt_and ?_ ?_)
  all_goals (as_aux_lemma => kernel_rfl)
end Go.Proofs.YtopdhljncajmpaaGreatDoor
