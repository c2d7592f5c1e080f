import Derived.Test.YtbjiaiobpbpjoaaPlainW3
set_option linter.unusedSimpArgs false
set_option linter.unusedVariables false
set_option linter.unusedSectionVars false
set_option maxRecDepth 4000
namespace Go.Proofs.Ytbjiaiobpbpjoaa
open Go Go.Vm

/-! ### Fees -/
def sumC (l : List S_api_Coin) : Int := (l.map (·.Output.Value)).sum
theorem sumC_cons (c : S_api_Coin) (l : List S_api_Coin) : sumC (c :: l) = c.Output.Value + sumC l := by simp [sumC]
def nnC (c : S_api_Coin) : Bool := !decide (c.Output.Value < 0)
def mdC (c : S_api_Coin) : Bool := !decide (c.Output.Value < 0) && !decide (2100000000000000 < c.Output.Value)
theorem sumC_nonneg : ∀ {l : List S_api_Coin}, l.all nnC = true → 0 ≤ sumC l
  | [], _ => by simp [sumC]
  | c :: l, h => by
    rw [List.all_cons, Bool.and_eq_true] at h
    have h2 := sumC_nonneg h.2
    have h1 := h.1
    simp only [nnC, Bool.not_eq_true', decide_eq_false_iff_not] at h1
    rw [sumC_cons]; omega
theorem csum_loop (N : Nat) (l : List S_api_Coin) (hn : l.length ≤ 70) (m : Nat) : ∀ (j : Nat) (s : Int), l.length - j < m → j ≤ l.length → 0 ≤ s → s ≤ 2100000000000000 →
    spend_sum_L2 N l m s (j : Int) = some (if (l.drop j).all nnC = true ∧ s + sumC (l.drop j) ≤ 2100000000000000 then .brk (s + sumC (l.drop j)) else .ret (0, false)) := by
  induction m with
  | zero => intro j s hm _ _ _; omega
  | succ m ih =>
    intro j s hm hj hs hs2
    rw [spend_sum_L2]
    by_cases h : j < l.length
    · rw [dT h, if_pos rfl, idx_lt l h, Option.bind_some, List.drop_eq_getElem_cons h, sumC_cons, List.all_cons]
      simp only [spend_sum_J3]
      by_cases hv : l[j].Output.Value < 0
      · have e : nnC l[j] = false := by simp [nnC, hv]
        simp only [e, decide_eq_true hv, if_true, Bool.false_and, Bool.false_eq_true, false_and, if_false]
      · have e : nnC l[j] = true := by simp [nnC, hv]
        rw [decide_eq_false hv, e, w64 (a := 2100000000000000 - s) (by omega) (by omega)]
        simp only [Bool.false_eq_true, if_false, Bool.true_and]
        by_cases hc : 2100000000000000 - s < l[j].Output.Value
        · rw [decide_eq_true hc, if_pos rfl]
          rw [if_neg (fun hh => by have := sumC_nonneg hh.1; omega)]
        · rw [decide_eq_false hc, w64 (a := s + l[j].Output.Value) (by omega) (by omega)]
          simp only [Bool.false_eq_true, if_false, i1 (show j ≤ 100000 by omega)]
          rw [ih (j + 1) _ (by omega) (by omega) (by omega) (by omega), Int.add_assoc]
    · rw [dF h, List.drop_eq_nil_of_le (by omega)]
      simp [sumC, hs2]
theorem rsum_loop (N : Nat) (v : Int) (ins : List S_api_Input) (outs : List S_api_Output) (lock : Int) (l : List S_api_Coin) (hn : l.length ≤ 70) (m : Nat) : ∀ (j : Nat) (s : Int), l.length - j < m → j ≤ l.length → 0 ≤ s → s ≤ (j : Int) * 2100000000000000 →
    ref10_Fee_L5 N v ins outs lock l m s (j : Int) = some (if (l.drop j).all mdC = true then .brk (s + sumC (l.drop j)) else .ret (0, 90)) := by
  induction m with
  | zero => intro j s hm _ _ _; omega
  | succ m ih =>
    intro j s hm hj hs hs2
    rw [ref10_Fee_L5]
    by_cases h : j < l.length
    · rw [dT h, if_pos rfl, idx_lt l h, Option.bind_some, List.drop_eq_getElem_cons h, sumC_cons, List.all_cons]
      simp only [ref10_Fee_J6]
      by_cases hv : l[j].Output.Value < 0
      · have e : mdC l[j] = false := by simp [mdC, hv]
        simp only [e, decide_eq_true hv, if_true, Bool.false_and, Bool.false_eq_true, if_false]
      · rw [decide_eq_false hv]
        simp only [Bool.false_eq_true, if_false]
        by_cases hc : 2100000000000000 < l[j].Output.Value
        · have e : mdC l[j] = false := by simp [mdC, hc]
          simp only [e, decide_eq_true hc, if_true, Bool.false_and, Bool.false_eq_true, if_false]
        · have e : mdC l[j] = true := by simp [mdC]; omega
          rw [decide_eq_false hc, e, w64 (a := s + l[j].Output.Value) (by omega) (by omega)]
          simp only [Bool.false_eq_true, if_false, i1 (show j ≤ 100000 by omega), Bool.true_and]
          rw [ih (j + 1) _ (by omega) (by omega) (by omega) (by omega), Int.add_assoc]
    · rw [dF h, List.drop_eq_nil_of_le (by omega)]
      simp [sumC]
theorem md_nn : ∀ {l : List S_api_Coin}, l.all mdC = true → l.all nnC = true
  | [], _ => rfl
  | c :: l, h => by
    rw [List.all_cons, Bool.and_eq_true] at h ⊢
    refine ⟨?_, md_nn h.2⟩
    have := h.1
    simp only [mdC, Bool.and_eq_true] at this
    exact this.1
theorem nn_md : ∀ {l : List S_api_Coin}, l.all nnC = true → sumC l ≤ 2100000000000000 → l.all mdC = true
  | [], _, _ => rfl
  | c :: l, h, hs => by
    rw [List.all_cons, Bool.and_eq_true] at h ⊢
    have h1 := sumC_nonneg h.2
    have h2 := h.1
    rw [sumC_cons] at hs
    simp only [nnC, Bool.not_eq_true', decide_eq_false_iff_not] at h2
    refine ⟨?_, nn_md h.2 (by omega)⟩
    simp only [mdC, Bool.and_eq_true, Bool.not_eq_true', decide_eq_false_iff_not]
    omega
def mtc (l : List S_api_Coin) (ins : List S_api_Input) (k : Nat) : Bool := match l[k]?, ins[k]? with
  | some c, some x => aeq32 c.Out.Tx x.Prev.Tx ((c.Out.Index == x.Prev.Index) && true)
  | _, _ => false
theorem mtc_eq {l : List S_api_Coin} {ins : List S_api_Input} {k : Nat} (h : k < l.length) (h2 : k < ins.length) : mtc l ins k = aeq32 l[k].Out.Tx ins[k].Prev.Tx ((l[k].Out.Index == ins[k].Prev.Index) && true) := by
  simp only [mtc, List.getElem?_eq_getElem h, List.getElem?_eq_getElem h2]
def feeR (v : Int) (ins : List S_api_Input) (outs : List S_api_Output) (lock : Int) (l : List S_api_Coin) : Int × Int :=
  if chk v ins outs lock ≠ 0 then (0, chk v ins outs lock) else if l.length ≠ ins.length then (0, 8) else if (List.range' 0 l.length).all (mtc l ins) = false then (0, 101)
  else if ¬ (l.all nnC = true ∧ sumC l ≤ 2100000000000000) then (0, 90)
  else if outs.foldl (fun s o => IntKind.i64.wrap (s - o.Value)) (sumC l) < 0 then (0, 100) else (outs.foldl (fun s o => IntKind.i64.wrap (s - o.Value)) (sumC l), 0)
theorem lenne {α β : Type} (l : List α) (k : List β) : ((l.length : Int) != (k.length : Int)) = decide (l.length ≠ k.length) := by
  by_cases h : l.length = k.length
  · rw [h]; simp
  · rw [decide_eq_true h]; simp; omega
section
variable (N : Nat) (hN : 70000 ≤ N) {v : Int} {ins : List S_api_Input} {outs : List S_api_Output} {lock : Int} (K : Kept ins outs) {l : List S_api_Coin} (hl : l.length ≤ 70)
include hN K hl
theorem fee_eq : spend_Fee N v ins outs lock l = some (feeR v ins outs lock l) := by
  have k1 := K.ni
  have k2 := K.no
  unfold spend_Fee feeR
  rw [check_eq N hN K, Option.bind_some, lenne]
  by_cases hc : chk v ins outs lock = 0
  · simp only [hc, bne_self_eq_false, Bool.false_eq_true, if_false, ne_eq, not_true_eq_false]
    by_cases hn : l.length = ins.length
    · simp only [hn, not_true_eq_false, decide_false, Bool.false_eq_true, if_false]
      have := loop_allI (f := spend_Fee_L4 N v ins outs lock l) (n := l.length) (p := mtc l ins) (r := (0, 101)) (fun m k hk => by
          have hk' : k < ins.length := by omega
          rw [spend_Fee_L4, dT hk, if_pos rfl, idx_lt l hk, idx_lt ins hk', mtc_eq hk hk']
          simp only [Option.bind_some, i1 (show k ≤ 100000 by omega)]
          cases aeq32 l[k].Out.Tx ins[k].Prev.Tx ((l[k].Out.Index == ins[k].Prev.Index) && true) <;> rfl) (fun m k hk => by rw [spend_Fee_L4, dF (by omega)]; rfl) N 0 (by omega) (by omega)
      rw [show ((0 : Nat) : Int) = 0 from rfl, Nat.sub_zero] at this
      rw [this, hn]
      cases (List.range' 0 ins.length).all (mtc l ins) with
      | false => rfl
      | true =>
        have hs := csum_loop N l hl N 0 0 (by omega) (by omega) (by omega) (by omega)
        rw [show ((0 : Nat) : Int) = 0 from rfl, List.drop_zero, Int.zero_add] at hs
        simp only [if_true, Option.bind_some, spend_Fee_J1, spend_sum, hs, Bool.true_eq_false, if_false]
        by_cases hz : l.all nnC = true ∧ sumC l ≤ 2100000000000000
        · rw [if_pos hz, if_neg (fun h => h hz)]
          have hf := loop_fold (f := spend_Fee_L3 N outs) (xs := outs) (g := fun s o => IntKind.i64.wrap (s - o.Value)) (fun m s j hj => by
              rw [spend_Fee_L3, dT hj, if_pos rfl, idx_lt outs hj]
              simp only [Option.bind_some, i1 (show j ≤ 100000 by omega)]) (fun m s j hj => by rw [spend_Fee_L3, dF (by omega)]; rfl) N (sumC l) 0 (by omega) (by omega)
          rw [show ((0 : Nat) : Int) = 0 from rfl, List.drop_zero] at hf
          simp only [spend_sum_J1, Option.bind_some, Bool.not_true, Bool.false_eq_true, if_false, hf, spend_Fee_J2]
          by_cases hx : outs.foldl (fun s o => IntKind.i64.wrap (s - o.Value)) (sumC l) < 0
          · rw [decide_eq_true hx, if_pos rfl, if_pos hx]
          · rw [decide_eq_false hx, if_neg hx]; rfl
        · rw [if_neg hz, if_pos hz]; rfl
    · simp only [hn, not_false_eq_true, decide_true, if_true]
  · have : (chk v ins outs lock != 0) = true := by simpa using hc
    simp only [this, hc, if_true, ne_eq, not_false_eq_true]
theorem rfee_eq : ref10_Fee N v ins outs lock l = some (feeR v ins outs lock l) := by
  have k1 := K.ni
  have k2 := K.no
  unfold ref10_Fee feeR
  rw [rcheck_eq N hN K, Option.bind_some, lenne]
  by_cases hc : chk v ins outs lock = 0
  · simp only [hc, bne_self_eq_false, Bool.false_eq_true, if_false, ne_eq, not_true_eq_false]
    by_cases hn : l.length = ins.length
    · simp only [hn, not_true_eq_false, decide_false, Bool.false_eq_true, if_false]
      have := loop_allI (f := ref10_Fee_L7 N v ins outs lock l) (n := l.length) (p := mtc l ins) (r := (0, 101)) (fun m k hk => by
          have hk' : k < ins.length := by omega
          rw [ref10_Fee_L7, dT hk, if_pos rfl, idx_lt l hk, idx_lt ins hk', mtc_eq hk hk']
          simp only [Option.bind_some, i1 (show k ≤ 100000 by omega)]
          cases aeq32 l[k].Out.Tx ins[k].Prev.Tx ((l[k].Out.Index == ins[k].Prev.Index) && true) <;> rfl) (fun m k hk => by rw [ref10_Fee_L7, dF (by omega)]; rfl) N 0 (by omega) (by omega)
      rw [show ((0 : Nat) : Int) = 0 from rfl, Nat.sub_zero] at this
      rw [this, hn]
      cases (List.range' 0 ins.length).all (mtc l ins) with
      | false => rfl
      | true =>
        have hs := rsum_loop N v ins outs lock l hl N 0 0 (by omega) (by omega) (by omega) (by omega)
        rw [show ((0 : Nat) : Int) = 0 from rfl, List.drop_zero, Int.zero_add] at hs
        simp only [if_true, Option.bind_some, ref10_Fee_J1, hs, Bool.true_eq_false, if_false]
        by_cases hm : l.all mdC = true
        · rw [if_pos hm]
          simp only [ref10_Fee_J2]
          by_cases hz : sumC l ≤ 2100000000000000
          · rw [decide_eq_false (by omega)]
            simp only [Bool.false_eq_true, if_false]
            rw [if_neg (show ¬ ¬ (l.all nnC = true ∧ sumC l ≤ 2100000000000000) from fun h => h ⟨md_nn hm, hz⟩)]
            have hf := loop_fold (f := ref10_Fee_L4 N outs) (xs := outs) (g := fun s o => IntKind.i64.wrap (s - o.Value)) (fun m s j hj => by
                rw [ref10_Fee_L4, dT hj, if_pos rfl, idx_lt outs hj]
                simp only [Option.bind_some, i1 (show j ≤ 100000 by omega)]) (fun m s j hj => by rw [ref10_Fee_L4, dF (by omega)]; rfl) N (sumC l) 0 (by omega) (by omega)
            rw [show ((0 : Nat) : Int) = 0 from rfl, List.drop_zero] at hf
            simp only [Bool.false_eq_true, if_false, hf, Option.bind_some, ref10_Fee_J3]
            by_cases hx : outs.foldl (fun s o => IntKind.i64.wrap (s - o.Value)) (sumC l) < 0
            · rw [decide_eq_true hx, if_pos rfl, if_pos hx]
            · rw [decide_eq_false hx, if_neg hx]; rfl
          · rw [decide_eq_true (by omega), if_pos rfl, if_pos (fun h => hz h.2)]
        · rw [if_neg hm, if_pos (fun h => hm (nn_md h.1 h.2))]
    · simp only [hn, not_false_eq_true, decide_true, if_true]
  · have : (chk v ins outs lock != 0) = true := by simpa using hc
    simp only [this, hc, if_true, ne_eq, not_false_eq_true]
end
end Go.Proofs.Ytbjiaiobpbpjoaa
