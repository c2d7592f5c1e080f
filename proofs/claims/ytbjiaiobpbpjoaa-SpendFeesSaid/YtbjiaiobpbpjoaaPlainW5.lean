import Derived.Test.YtbjiaiobpbpjoaaPlainW4
set_option linter.unusedSimpArgs false
set_option linter.unusedVariables false
set_option maxRecDepth 4000
namespace Go.Proofs.Ytbjiaiobpbpjoaa
open Go Go.Vm
def NN : Nat := 70000
theorem sane_eq : law10_sane NN = some true := by decide +kernel
theorem SpendFees_true (v : Int) (ins : List S_api_Input) (outs : List S_api_Output) (lock : Int) (l : List S_api_Coin) (ht : ∀ x ∈ ins, x.Prev.Tx.length = 32) : law10_SpendFees NN v ins outs lock l = some true := by
  unfold law10_SpendFees
  rw [sane_eq]
  simp only [Option.bind_some, Bool.not_true, Bool.false_eq_true, if_false, keepTx_eq NN (Nat.le_refl _), keepCoins_eq NN (Nat.le_refl _)]
  cases hk : keptB ins outs with
  | false => rfl
  | true =>
    simp only [Bool.not_true, Bool.false_eq_true, if_false, law10_SpendFees_J1]
    cases hc : keptC l with
    | false => rfl
    | true =>
      have hl : l.length ≤ 70 := by
        simp only [keptC, Bool.and_eq_true, decide_eq_true_eq] at hc
        exact hc.1
      simp only [Bool.not_true, Bool.false_eq_true, if_false, fee_eq NN (Nat.le_refl _) (kept_of hk ht) hl, rfee_eq NN (Nat.le_refl _) (kept_of hk ht) hl, Option.bind_some, beq_self_eq_true, if_true, law10_SpendFees_J2]
end Go.Proofs.Ytbjiaiobpbpjoaa
