import Derived.Test.YtbjiaiobpbpjoaaPlainW2
set_option linter.unusedSimpArgs false
set_option linter.unusedVariables false
set_option linter.unusedSectionVars false
set_option maxRecDepth 4000
namespace Go.Proofs.Ytbjiaiobpbpjoaa
open Go Go.Vm

/-! ### Guards -/
theorem nle (a b : Nat) : decide ((a : Int) < (b : Int)) = !decide (b ≤ a) := by
  by_cases h : a < b
  · rw [decide_eq_true (by omega), decide_eq_false (by omega)]; rfl
  · rw [decide_eq_false (by omega), decide_eq_true (by omega)]; rfl
theorem dle (n : Nat) : decide ((n : Int) ≤ 20000) = decide (n ≤ 20000) := by
  by_cases h : n ≤ 20000
  · rw [decide_eq_true h, decide_eq_true (by omega)]
  · rw [decide_eq_false h, decide_eq_false (by omega)]
theorem items_eq (N : Nat) (hN : 70000 ≤ N) (l : List (List Int)) (n k : Nat) (hn : n ≤ 1000) : keep_Items N l (n : Int) (k : Int) = some (decide (l.length ≤ n) && l.all fun w => decide (w.length ≤ k)) := by
  unfold keep_Items
  rw [nle]
  by_cases h : l.length ≤ n
  · rw [decide_eq_true h]
    simp only [Bool.not_true, Bool.false_eq_true, if_false, Bool.true_and]
    have := loop_all (f := keep_Items_L2 N l (k : Int)) (xs := l) (p := fun w => decide (w.length ≤ k)) (r := false) (fun m j hj => by
        rw [keep_Items_L2, dT hj, if_pos rfl, idx_lt l hj]
        simp only [Option.bind_some, nle, i1 (show j ≤ 100000 by omega)]
        cases decide (l[j].length ≤ k) <;> rfl) (fun m j hj => by rw [keep_Items_L2, dF (by omega)]; rfl) N 0 (by omega) (by omega)
    rw [show ((0 : Nat) : Int) = 0 from rfl, List.drop_zero] at this
    rw [this]
    cases l.all fun w => decide (w.length ≤ k) <;> rfl
  · rw [decide_eq_false h]; rfl
def keptI (x : S_api_Input) : Bool := decide (x.Witness.length ≤ 40) && x.Witness.all fun w => decide (w.length ≤ 600)
def keptB (ins : List S_api_Input) (outs : List S_api_Output) : Bool := decide (ins.length ≤ 70) && decide (outs.length ≤ 70) && ins.all keptI && outs.all fun o => decide (o.Script.length ≤ 600)
theorem keepTx_eq (N : Nat) (hN : 70000 ≤ N) (v : Int) (ins : List S_api_Input) (outs : List S_api_Output) (lock : Int) : keep_Tx N v ins outs lock = some (keptB ins outs) := by
  unfold keep_Tx keptB
  rw [show (70 : Int) = ((70 : Nat) : Int) from rfl, nle, nle]
  by_cases h : ins.length ≤ 70
  · rw [decide_eq_true h]
    simp only [Bool.not_true, Bool.false_eq_true, if_false, Bool.true_and, keep_Tx_J1]
    by_cases h2 : outs.length ≤ 70
    · rw [decide_eq_true h2]
      simp only [Bool.not_true, Bool.false_eq_true, if_false, Bool.true_and]
      have l5 := loop_all (f := keep_Tx_L5 N v ins outs lock) (xs := ins) (p := keptI) (r := false) (fun m j hj => by
          rw [keep_Tx_L5, dT hj, if_pos rfl, idx_lt ins hj]
          simp only [Option.bind_some, show (40 : Int) = ((40 : Nat) : Int) from rfl, show (600 : Int) = ((600 : Nat) : Int) from rfl, items_eq N hN _ 40 600 (by omega), i1 (show j ≤ 100000 by omega)]
          rw [show keptI ins[j] = (decide (ins[j].Witness.length ≤ 40) && ins[j].Witness.all fun w => decide (w.length ≤ 600)) from rfl]
          cases (decide (ins[j].Witness.length ≤ 40) && ins[j].Witness.all fun w => decide (w.length ≤ 600)) <;> rfl) (fun m j hj => by rw [keep_Tx_L5, dF (by omega)]; rfl) N 0 (by omega) (by omega)
      have l4 := loop_all (f := keep_Tx_L4 N outs) (xs := outs) (p := fun o => decide (o.Script.length ≤ 600)) (r := false) (fun m j hj => by
          rw [keep_Tx_L4, dT hj, if_pos rfl, idx_lt outs hj]
          simp only [Option.bind_some, show (600 : Int) = ((600 : Nat) : Int) from rfl, nle, i1 (show j ≤ 100000 by omega)]
          cases decide (outs[j].Script.length ≤ 600) <;> rfl) (fun m j hj => by rw [keep_Tx_L4, dF (by omega)]; rfl) N 0 (by omega) (by omega)
      rw [show ((0 : Nat) : Int) = 0 from rfl, List.drop_zero] at l5 l4
      rw [l5]
      cases ins.all keptI
      · rfl
      · simp only [Option.bind_some, if_true, keep_Tx_J2, l4, Bool.true_and]
        cases outs.all fun o => decide (o.Script.length ≤ 600) <;> rfl
    · rw [decide_eq_false h2]; rfl
  · rw [decide_eq_false h]; rfl
theorem kept_of {ins : List S_api_Input} {outs : List S_api_Output} (h : keptB ins outs = true) (ht : ∀ x ∈ ins, x.Prev.Tx.length = 32) : Kept ins outs := by
  simp only [keptB, Bool.and_eq_true, decide_eq_true_eq, List.all_eq_true] at h
  obtain ⟨⟨⟨h1, h2⟩, h3⟩, h4⟩ := h
  refine ⟨h1, h2, fun x hx => ?_, h4, ht⟩
  have := h3 x hx
  simp only [keptI, Bool.and_eq_true, decide_eq_true_eq, List.all_eq_true] at this
  exact this
def keptC (l : List S_api_Coin) : Bool := decide (l.length ≤ 70) && l.all fun c => decide (c.Output.Script.length ≤ 600)
theorem keepCoins_eq (N : Nat) (hN : 70000 ≤ N) (l : List S_api_Coin) : keep_Coins N l 70 = some (keptC l) := by
  unfold keep_Coins keptC
  rw [show (70 : Int) = ((70 : Nat) : Int) from rfl, nle]
  by_cases h : l.length ≤ 70
  · rw [decide_eq_true h]
    simp only [Bool.not_true, Bool.false_eq_true, if_false, Bool.true_and]
    have := loop_all (f := keep_Coins_L2 N l) (xs := l) (p := fun c => decide (c.Output.Script.length ≤ 600)) (r := false) (fun m j hj => by
        rw [keep_Coins_L2, dT hj, if_pos rfl, idx_lt l hj]
        simp only [Option.bind_some, show (600 : Int) = ((600 : Nat) : Int) from rfl, nle, i1 (show j ≤ 100000 by omega)]
        cases decide (l[j].Output.Script.length ≤ 600) <;> rfl) (fun m j hj => by rw [keep_Coins_L2, dF (by omega)]; rfl) N 0 (by omega) (by omega)
    rw [show ((0 : Nat) : Int) = 0 from rfl, List.drop_zero] at this
    rw [this]
    cases l.all fun c => decide (c.Output.Script.length ≤ 600) <;> rfl
  · rw [decide_eq_false h]; rfl

/-! ### Limits -/
def fitO (o : S_api_Output) : Bool := !decide (o.Value < 0) && decide (o.Script.length ≤ 520)
def fitI (x : S_api_Input) : Bool := decide (x.Witness.length ≤ 32) && x.Witness.all fun w => decide (w.length ≤ 520)
def fitB (v : Int) (ins : List S_api_Input) (outs : List S_api_Output) (lock : Int) : Bool :=
  decide (ins.length ≤ 64) && decide (outs.length ≤ 64) && outs.all fitO && ins.all fitI && decide ((encB v ins outs lock true).length ≤ 20000)
theorem fits_eq (N : Nat) (hN : 70000 ≤ N) {v : Int} {ins : List S_api_Input} {outs : List S_api_Output} {lock : Int} (K : Kept ins outs) : tx_fits N v ins outs lock = some (fitB v ins outs lock) := by
  have k1 := K.ni
  have k2 := K.no
  unfold tx_fits fitB
  rw [show (64 : Int) = ((64 : Nat) : Int) from rfl, nle, nle]
  by_cases h : ins.length ≤ 64
  · rw [decide_eq_true h]
    simp only [Bool.not_true, Bool.false_eq_true, if_false, Bool.true_and, tx_fits_J1]
    by_cases h2 : outs.length ≤ 64
    · rw [decide_eq_true h2]
      simp only [Bool.not_true, Bool.false_eq_true, if_false, Bool.true_and]
      have l7 := loop_all (f := tx_fits_L7 N v ins outs lock) (xs := outs) (p := fitO) (r := false) (fun m j hj => by
          rw [tx_fits_L7, dT hj, if_pos rfl, idx_lt outs hj]
          simp only [Option.bind_some, show (520 : Int) = ((520 : Nat) : Int) from rfl, nle, i1 (show j ≤ 100000 by omega), tx_fits_J8]
          rw [show fitO outs[j] = (!decide (outs[j].Value < 0) && decide (outs[j].Script.length ≤ 520)) from rfl]
          cases decide (outs[j].Value < 0) <;> cases decide (outs[j].Script.length ≤ 520) <;> rfl) (fun m j hj => by rw [tx_fits_L7, dF (by omega)]; rfl) N 0 (by omega) (by omega)
      have l6 : ∀ (x : Int) (w : S_api_Input), w.Witness.length ≤ 32 → tx_fits_L6 N v ins outs lock x w N 0 = some (if (w.Witness.all fun w => decide (w.length ≤ 520)) = true then .brk () else .ret false) := fun x w hw => by
        have := loop_all (f := tx_fits_L6 N v ins outs lock x w) (xs := w.Witness) (p := fun w => decide (w.length ≤ 520)) (r := false) (fun m j hj => by
          rw [tx_fits_L6, dT hj, if_pos rfl, idx_lt w.Witness hj]
          simp only [Option.bind_some, show (520 : Int) = ((520 : Nat) : Int) from rfl, nle, i1 (show j ≤ 100000 by omega)]
          cases decide (w.Witness[j].length ≤ 520) <;> rfl) (fun m j hj => by rw [tx_fits_L6, dF (by omega)]; rfl) N 0 (by omega) (by omega)
        rw [show ((0 : Nat) : Int) = 0 from rfl, List.drop_zero] at this
        exact this
      have l4 := loop_all (f := tx_fits_L4 N v ins outs lock) (xs := ins) (p := fitI) (r := false) (fun m j hj => by
          rw [tx_fits_L4, dT hj, if_pos rfl, idx_lt ins hj]
          simp only [Option.bind_some, show (32 : Int) = ((32 : Nat) : Int) from rfl, nle, i1 (show j ≤ 100000 by omega)]
          rw [show fitI ins[j] = (decide (ins[j].Witness.length ≤ 32) && ins[j].Witness.all fun w => decide (w.length ≤ 520)) from rfl]
          by_cases hw : ins[j].Witness.length ≤ 32
          · rw [decide_eq_true hw]
            simp only [Bool.not_true, Bool.false_eq_true, if_false, Bool.true_and, l6 _ _ hw, Option.bind_some, tx_fits_J5]
            cases ins[j].Witness.all fun w => decide (w.length ≤ 520)
            · rfl
            · simp only [if_true, i1 (show j ≤ 100000 by omega)]
          · rw [decide_eq_false hw]; rfl) (fun m j hj => by rw [tx_fits_L4, dF (by omega)]; rfl) N 0 (by omega) (by omega)
      rw [show ((0 : Nat) : Int) = 0 from rfl, List.drop_zero] at l7 l4
      rw [l7]
      cases outs.all fitO
      · rfl
      · simp only [Option.bind_some, if_true, tx_fits_J2, l4, Bool.true_and]
        cases ins.all fitI
        · rfl
        · simp only [Option.bind_some, if_true, tx_fits_J3, encode_eq N hN K, Bool.true_and]
          rw [dle]
    · rw [decide_eq_false h2]; rfl
  · rw [decide_eq_false h]; rfl
theorem rfits_eq (N : Nat) (hN : 70000 ≤ N) {v : Int} {ins : List S_api_Input} {outs : List S_api_Output} {lock : Int} (K : Kept ins outs) : ref09_Fits N v ins outs lock = some (fitB v ins outs lock) := by
  have k1 := K.ni
  have k2 := K.no
  unfold ref09_Fits fitB
  rw [show (64 : Int) = ((64 : Nat) : Int) from rfl, nle, nle]
  by_cases h : ins.length ≤ 64
  · rw [decide_eq_true h]
    simp only [Bool.not_true, Bool.false_eq_true, if_false, Bool.true_and, ref09_Fits_J1]
    by_cases h2 : outs.length ≤ 64
    · rw [decide_eq_true h2]
      simp only [Bool.not_true, Bool.false_eq_true, if_false, Bool.true_and]
      have l7 := loop_all (f := ref09_Fits_L7 N v ins outs lock) (xs := outs) (p := fitO) (r := false) (fun m j hj => by
          rw [ref09_Fits_L7, dT hj, if_pos rfl, idx_lt outs hj]
          simp only [Option.bind_some, show (520 : Int) = ((520 : Nat) : Int) from rfl, nle, i1 (show j ≤ 100000 by omega), ref09_Fits_J8]
          rw [show fitO outs[j] = (!decide (outs[j].Value < 0) && decide (outs[j].Script.length ≤ 520)) from rfl]
          cases decide (outs[j].Value < 0) <;> cases decide (outs[j].Script.length ≤ 520) <;> rfl) (fun m j hj => by rw [ref09_Fits_L7, dF (by omega)]; rfl) N 0 (by omega) (by omega)
      have l6 : ∀ (x : Int) (w : S_api_Input), w.Witness.length ≤ 32 → ref09_Fits_L6 N v ins outs lock x w N 0 = some (if (w.Witness.all fun w => decide (w.length ≤ 520)) = true then .brk () else .ret false) := fun x w hw => by
        have := loop_all (f := ref09_Fits_L6 N v ins outs lock x w) (xs := w.Witness) (p := fun w => decide (w.length ≤ 520)) (r := false) (fun m j hj => by
          rw [ref09_Fits_L6, dT hj, if_pos rfl, idx_lt w.Witness hj]
          simp only [Option.bind_some, show (520 : Int) = ((520 : Nat) : Int) from rfl, nle, i1 (show j ≤ 100000 by omega)]
          cases decide (w.Witness[j].length ≤ 520) <;> rfl) (fun m j hj => by rw [ref09_Fits_L6, dF (by omega)]; rfl) N 0 (by omega) (by omega)
        rw [show ((0 : Nat) : Int) = 0 from rfl, List.drop_zero] at this
        exact this
      have l4 := loop_all (f := ref09_Fits_L4 N v ins outs lock) (xs := ins) (p := fitI) (r := false) (fun m j hj => by
          rw [ref09_Fits_L4, dT hj, if_pos rfl, idx_lt ins hj]
          simp only [Option.bind_some, show (32 : Int) = ((32 : Nat) : Int) from rfl, nle, i1 (show j ≤ 100000 by omega)]
          rw [show fitI ins[j] = (decide (ins[j].Witness.length ≤ 32) && ins[j].Witness.all fun w => decide (w.length ≤ 520)) from rfl]
          by_cases hw : ins[j].Witness.length ≤ 32
          · rw [decide_eq_true hw]
            simp only [Bool.not_true, Bool.false_eq_true, if_false, Bool.true_and, l6 _ _ hw, Option.bind_some, ref09_Fits_J5]
            cases ins[j].Witness.all fun w => decide (w.length ≤ 520)
            · rfl
            · simp only [if_true, i1 (show j ≤ 100000 by omega)]
          · rw [decide_eq_false hw]; rfl) (fun m j hj => by rw [ref09_Fits_L4, dF (by omega)]; rfl) N 0 (by omega) (by omega)
      rw [show ((0 : Nat) : Int) = 0 from rfl, List.drop_zero] at l7 l4
      rw [l7]
      cases outs.all fitO
      · rfl
      · simp only [Option.bind_some, if_true, ref09_Fits_J2, l4, Bool.true_and]
        cases ins.all fitI
        · rfl
        · simp only [Option.bind_some, if_true, ref09_Fits_J3, rencode_eq N hN K, Bool.true_and]
          rw [dle]
    · rw [decide_eq_false h2]; rfl
  · rw [decide_eq_false h]; rfl

/-! ### Amounts -/
def sumO (l : List S_api_Output) : Int := (l.map (·.Value)).sum
theorem sumO_nonneg : ∀ {l : List S_api_Output}, (∀ o ∈ l, 0 ≤ o.Value) → 0 ≤ sumO l
  | [], _ => by simp [sumO]
  | o :: l, h => by
    have h1 := h o (by simp)
    have h2 := sumO_nonneg (l := l) (fun x hx => h x (by simp [hx]))
    simp only [sumO, List.map_cons, List.sum_cons] at h2 ⊢; omega
theorem sumO_cons (o : S_api_Output) (l : List S_api_Output) : sumO (o :: l) = o.Value + sumO l := by simp [sumO]
theorem money_loop (N : Nat) (outs : List S_api_Output) (hn : outs.length ≤ 64) (h0 : ∀ o ∈ outs, 0 ≤ o.Value) : ∀ (m j : Nat) (s : Int), outs.length - j < m → j ≤ outs.length → 0 ≤ s → s ≤ 2100000000000000 →
    tx_money_L2 N outs m s (j : Int) = some (if s + sumO (outs.drop j) ≤ 2100000000000000 then .brk () else .ret false)
  | 0, j, s, hm, _, _, _ => by omega
  | m + 1, j, s, hm, hj, hs, hs2 => by
    rw [tx_money_L2]
    by_cases h : j < outs.length
    · have hv := h0 _ (List.getElem_mem h)
      have hnn := sumO_nonneg (l := outs.drop (j + 1)) (fun x hx => h0 x (List.mem_of_mem_drop hx))
      rw [dT h, if_pos rfl, idx_lt outs h, Option.bind_some, List.drop_eq_getElem_cons h, sumO_cons, w64 (a := 2100000000000000 - s) (by omega) (by omega)]
      by_cases hc : 2100000000000000 - s < outs[j].Value
      · rw [decide_eq_true hc, if_pos rfl, if_neg (by omega)]
      · rw [decide_eq_false hc, w64 (a := s + outs[j].Value) (by omega) (by omega)]
        simp only [Bool.false_eq_true, if_false, i1 (show j ≤ 100000 by omega)]
        rw [money_loop N outs hn h0 m (j + 1) _ (by omega) (by omega) (by omega) (by omega), Int.add_assoc]
    · rw [dF h, List.drop_eq_nil_of_le (by omega)]
      simp [sumO, hs2]
theorem money_eq (N : Nat) (hN : 70000 ≤ N) (outs : List S_api_Output) (hn : outs.length ≤ 64) (h0 : ∀ o ∈ outs, 0 ≤ o.Value) : tx_money N outs = some (decide (sumO outs ≤ 2100000000000000)) := by
  have := money_loop N outs hn h0 N 0 0 (by omega) (by omega) (by omega) (by omega)
  rw [show ((0 : Nat) : Int) = 0 from rfl, List.drop_zero, Int.zero_add] at this
  unfold tx_money
  rw [this]
  by_cases h : sumO outs ≤ 2100000000000000
  · rw [if_pos h, decide_eq_true h]; rfl
  · rw [if_neg h, decide_eq_false h]; rfl
theorem rmoney_loop (N : Nat) (v : Int) (ins : List S_api_Input) (outs : List S_api_Output) (lock : Int) (hn : outs.length ≤ 64) (h0 : ∀ o ∈ outs, 0 ≤ o.Value) (m : Nat) : ∀ (j : Nat) (s : Int), outs.length - j < m → j ≤ outs.length → 0 ≤ s → s ≤ (j : Int) * 2100000000000000 →
    ref09_Check_L10 N v ins outs lock m s (j : Int) = some (if ((outs.drop j).all fun o => decide (o.Value ≤ 2100000000000000)) = true then .brk (s + sumO (outs.drop j)) else .ret 90) := by
  induction m with
  | zero => intro j s hm _ _ _; omega
  | succ m ih =>
    intro j s hm hj hs hs2
    rw [ref09_Check_L10]
    by_cases h : j < outs.length
    · have hv := h0 _ (List.getElem_mem h)
      rw [dT h, if_pos rfl, idx_lt outs h, Option.bind_some, List.drop_eq_getElem_cons h, sumO_cons, List.all_cons]
      by_cases hc : 2100000000000000 < outs[j].Value
      · rw [decide_eq_true hc, if_pos rfl, decide_eq_false (by omega : ¬ outs[j].Value ≤ 2100000000000000)]; rfl
      · rw [decide_eq_false hc, decide_eq_true (by omega : outs[j].Value ≤ 2100000000000000), w64 (a := s + outs[j].Value) (by omega) (by omega)]
        simp only [Bool.false_eq_true, if_false, i1 (show j ≤ 100000 by omega), Bool.true_and]
        rw [ih (j + 1) _ (by omega) (by omega) (by omega) (by omega), Int.add_assoc]
    · rw [dF h, List.drop_eq_nil_of_le (by omega)]
      simp [sumO]
theorem sumO_big : ∀ {l : List S_api_Output}, (∀ o ∈ l, 0 ≤ o.Value) → (l.all fun o => decide (o.Value ≤ 2100000000000000)) = false → ¬ sumO l ≤ 2100000000000000
  | [], _, h => by simp at h
  | o :: l, h0, h => by
    have h1 := h0 o (by simp)
    have h2 := sumO_nonneg (l := l) (fun x hx => h0 x (by simp [hx]))
    rw [sumO_cons]
    rw [List.all_cons] at h
    by_cases hc : o.Value ≤ 2100000000000000
    · rw [decide_eq_true hc, Bool.true_and] at h
      have := sumO_big (fun x hx => h0 x (by simp [hx])) h
      omega
    · omega
/-! ### Duplicates -/
def qd (ins : List S_api_Input) (j k : Nat) : Bool := match ins[j]?, ins[k]? with
  | some a, some b => Q_52 a.Prev b.Prev
  | _, _ => false
def nd (ins : List S_api_Input) (j : Nat) : Bool := (List.range' 0 j).all fun k => !qd ins j k
theorem mget_true {α β : Type} {eq : α → α → Bool} {g : β → α} {k : α} : ∀ (xs : List β), mget eq (xs.map fun x => (g x, true)) k false = xs.any fun x => eq k (g x)
  | [] => rfl
  | x :: xs => by
    have ih := mget_true (eq := eq) (g := g) (k := k) xs
    simp only [mget, mfind, List.map_cons, List.findIdx?_cons, List.any_cons] at ih ⊢
    cases h : eq k (g x) with
    | true => simp
    | false =>
      simp only [Bool.false_eq_true, if_false, Bool.false_or]
      rw [← ih]
      cases List.findIdx? (fun e => eq k e.fst) (xs.map fun x => (g x, true)) <;> simp
theorem mput_new {α β : Type} {eq : α → α → Bool} {g : β → α} {k : α} (xs : List β) (h : (xs.any fun x => eq k (g x)) = false) : mput eq (xs.map fun x => (g x, true)) k true = (xs.map fun x => (g x, true)) ++ [(k, true)] := by
  have : mfind eq (xs.map fun x => (g x, true)) k = none := by
    simp only [mfind, List.findIdx?_eq_none_iff, List.mem_map]
    rintro e ⟨x, hx, rfl⟩
    have := List.any_eq_false.1 h x hx
    simpa using this
  simp only [mput, this]
theorem any_take (ins : List S_api_Input) (j : Nat) (hj : j < ins.length) : ((ins.take j).any fun x => Q_52 ins[j].Prev x.Prev) = !nd ins j := by
  unfold nd
  have : ∀ c, c ≤ j → ((ins.take c).any fun x => Q_52 ins[j].Prev x.Prev) = !((List.range' 0 c).all fun k => !qd ins j k) := by
    intro c
    induction c with
    | zero => intro _; rfl
    | succ c ih =>
      intro hc
      rw [List.take_succ_eq_append_getElem (by omega), List.any_append, ih (by omega), List.range'_concat, List.all_append]
      have : qd ins j (0 + 1 * c) = Q_52 ins[j].Prev ins[c].Prev := by
        simp only [qd, Nat.zero_add, Nat.one_mul, List.getElem?_eq_getElem hj, List.getElem?_eq_getElem (show c < ins.length by omega)]
      simp only [List.any_cons, List.any_nil, Bool.or_false, List.all_cons, List.all_nil, Bool.and_true, this]
      cases (List.range' 0 c).all fun k => !qd ins j k <;> cases Q_52 ins[j].Prev ins[c].Prev <;> rfl
  exact this j (Nat.le_refl _)
theorem dup_loop (N : Nat) (v : Int) (ins : List S_api_Input) (outs : List S_api_Output) (lock : Int) (hn : ins.length ≤ 100) : ∀ (m j : Nat), ins.length - j < m → j ≤ ins.length →
    tx_Check_L4 N v ins outs lock m (j : Int) ((ins.take j).map fun x => (x.Prev, true)) = some (if (List.range' j (ins.length - j)).all (nd ins) = true then .brk (ins.map fun x => (x.Prev, true)) else .ret 91)
  | 0, j, hm, _ => by omega
  | m + 1, j, hm, hj => by
    rw [tx_Check_L4]
    by_cases h : j < ins.length
    · rw [dT h, if_pos rfl, idx_lt ins h, Option.bind_some, mget_true (g := fun x : S_api_Input => x.Prev), any_take ins j h, show ins.length - j = (ins.length - (j + 1)) + 1 by omega, List.range'_succ, List.all_cons]
      cases hd : nd ins j with
      | false => rfl
      | true =>
        simp only [Bool.not_true, Bool.false_eq_true, if_false, Bool.true_and, i1 (show j ≤ 100000 by omega)]
        rw [mput_new (g := fun x : S_api_Input => x.Prev) _ (by rw [any_take ins j h, hd]; rfl)]
        have e : ((ins.take j).map fun x => (x.Prev, true)) ++ [(ins[j].Prev, true)] = (ins.take (j + 1)).map fun x => (x.Prev, true) := by
          rw [List.take_succ_eq_append_getElem h, List.map_append]; rfl
        rw [e]
        exact dup_loop N v ins outs lock hn m (j + 1) (by omega) (by omega)
    · have : j = ins.length := by omega
      subst this
      rw [dF h, Nat.sub_self, List.take_of_length_le (Nat.le_refl _)]; rfl
theorem rdup_in (N : Nat) (hN : 70000 ≤ N) (v : Int) (ins : List S_api_Input) (outs : List S_api_Output) (lock : Int) (j : Nat) (hj : j < ins.length) (hn : ins.length ≤ 100) : ref09_Check_L9 N v ins outs lock (j : Int) N 0 = some (if nd ins j = true then .brk () else .ret 91) := by
  have := loop_allI (f := ref09_Check_L9 N v ins outs lock (j : Int)) (n := j) (p := fun k => !qd ins j k) (r := 91) (fun m k hk => by
      have hk' : k < ins.length := by omega
      rw [ref09_Check_L9, dT hk, if_pos rfl, idx_lt ins hj, idx_lt ins hk']
      simp only [Option.bind_some, i1 (show k ≤ 100000 by omega)]
      have : qd ins j k = (aeq32 ins[j].Prev.Tx ins[k].Prev.Tx ((ins[j].Prev.Index == ins[k].Prev.Index) && true)) := by
        simp only [qd, List.getElem?_eq_getElem hj, List.getElem?_eq_getElem hk', Q_52]
      rw [this]
      cases aeq32 ins[j].Prev.Tx ins[k].Prev.Tx ((ins[j].Prev.Index == ins[k].Prev.Index) && true) <;> rfl) (fun m k hk => by rw [ref09_Check_L9, dF (by omega)]; rfl) N 0 (by omega) (by omega)
  rw [show ((0 : Nat) : Int) = 0 from rfl, Nat.sub_zero] at this
  exact this
theorem rdup_loop (N : Nat) (hN : 70000 ≤ N) (v : Int) (ins : List S_api_Input) (outs : List S_api_Output) (lock : Int) (hn : ins.length ≤ 100) : ref09_Check_L7 N v ins outs lock N 0 = some (if (List.range' 0 ins.length).all (nd ins) = true then .brk () else .ret 91) := by
  have := loop_allI (f := ref09_Check_L7 N v ins outs lock) (n := ins.length) (p := nd ins) (r := 91) (fun m j hj => by
      rw [ref09_Check_L7, dT hj, if_pos rfl, rdup_in N hN v ins outs lock j hj hn]
      simp only [Option.bind_some, ref09_Check_J8, i1 (show j ≤ 100000 by omega)]
      cases nd ins j <;> rfl) (fun m j hj => by rw [ref09_Check_L7, dF (by omega)]; rfl) N 0 (by omega) (by omega)
  rw [show ((0 : Nat) : Int) = 0 from rfl, Nat.sub_zero] at this
  exact this
/-! ### The null outpoint -/
def nullB (o : S_api_OutPoint) : Bool := aeq32 o.Tx (List.replicate 32 0) ((o.Index == 4294967295) && true)
theorem null_sym {o : S_api_OutPoint} (h : o.Tx.length = 32) : Q_52 (S_api_OutPoint.mk (List.replicate 32 0) 4294967295) o = nullB o := by
  unfold Q_52 nullB
  simp only
  rw [aeq32_iff (by simp) h, aeq32_iff h (by simp)]
  congr 1
  · rw [Bool.eq_iff_iff]; simp only [beq_iff_eq]; exact eq_comm
  · congr 1
    rw [Bool.eq_iff_iff]; simp only [beq_iff_eq]; exact eq_comm
def cbB (ins : List S_api_Input) : Bool := match ins with
  | [x] => nullB x.Prev
  | _ => false
theorem coinbase_eq (N : Nat) (v : Int) (ins : List S_api_Input) (outs : List S_api_Output) (lock : Int) : tx_Coinbase N v ins outs lock = some (cbB ins) ∧ ref09_Coinbase N v ins outs lock = some (cbB ins) := by
  unfold tx_Coinbase ref09_Coinbase cbB
  match ins with
  | [] => exact ⟨rfl, rfl⟩
  | [x] => exact ⟨rfl, rfl⟩
  | x :: y :: l =>
    have e : (((x :: y :: l).length : Int) == 1) = false := by
      simp only [List.length_cons, beq_eq_false_iff_ne]; omega
    rw [e]
    exact ⟨rfl, rfl⟩
/-! ### The structure of a transaction -/
def chk (v : Int) (ins : List S_api_Input) (outs : List S_api_Output) (lock : Int) : Int :=
  if fitB v ins outs lock = false then 4 else if (ins.length == 0 || outs.length == 0) = true then 93 else if ¬ sumO outs ≤ 2100000000000000 then 90 else if (List.range' 0 ins.length).all (nd ins) = false then 91
  else if ((ins.any fun x => nullB x.Prev) && !cbB ins) = true then 92 else 0
theorem lenz {α : Type} (l : List α) : ((l.length : Int) == 0) = (l.length == 0) := by
  rw [Bool.eq_iff_iff]; simp
theorem fit_nonneg {v : Int} {ins : List S_api_Input} {outs : List S_api_Output} {lock : Int} (h : fitB v ins outs lock = true) : ins.length ≤ 64 ∧ outs.length ≤ 64 ∧ ∀ o ∈ outs, 0 ≤ o.Value := by
  simp only [fitB, Bool.and_eq_true, decide_eq_true_eq, List.all_eq_true] at h
  refine ⟨h.1.1.1.1, h.1.1.1.2, fun o ho => ?_⟩
  have := h.1.1.2 o ho
  simp only [fitO, Bool.and_eq_true, Bool.not_eq_true', decide_eq_false_iff_not] at this
  omega
theorem check_eq (N : Nat) (hN : 70000 ≤ N) {v : Int} {ins : List S_api_Input} {outs : List S_api_Output} {lock : Int} (K : Kept ins outs) : tx_Check N v ins outs lock = some (chk v ins outs lock) := by
  unfold tx_Check chk
  rw [fits_eq N hN K]
  cases hf : fitB v ins outs lock with
  | false => rfl
  | true =>
    obtain ⟨n1, n2, h0⟩ := fit_nonneg hf
    simp only [Option.bind_some, Bool.not_true, Bool.false_eq_true, if_false, lenz, tx_Check_J1, Bool.true_eq_false]
    cases hi : ins.length == 0 with
    | true => rfl
    | false =>
      cases ho : outs.length == 0 with
      | true => rfl
      | false =>
        simp only [Bool.false_eq_true, if_false, Bool.or_self, money_eq N hN outs n2 h0, Option.bind_some]
        by_cases hm : sumO outs ≤ 2100000000000000
        · simp only [hm, decide_true, Bool.not_true, Bool.false_eq_true, if_false, not_true_eq_false]
          have := dup_loop N v ins outs lock (by omega) N 0 (by omega) (by omega)
          simp only [List.take_zero, List.map_nil, Nat.sub_zero] at this
          rw [show ((0 : Nat) : Int) = 0 from rfl] at this
          rw [this]
          cases hd : (List.range' 0 ins.length).all (nd ins) with
          | false => rfl
          | true =>
            simp only [if_true, Option.bind_some, tx_Check_J2, mget_true (g := fun x : S_api_Input => x.Prev), (coinbase_eq N v ins outs lock).1, Bool.true_eq_false, if_false]
            have e : (ins.any fun x => Q_52 (S_api_OutPoint.mk (List.replicate 32 0) 4294967295) x.Prev) = ins.any fun x => nullB x.Prev := by
              rw [Bool.eq_iff_iff]
              simp only [List.any_eq_true]
              constructor
              · rintro ⟨x, hx, h⟩; exact ⟨x, hx, by rw [← null_sym (K.tx x hx)]; exact h⟩
              · rintro ⟨x, hx, h⟩; exact ⟨x, hx, by rw [null_sym (K.tx x hx)]; exact h⟩
            rw [e]
            cases (ins.any fun x => nullB x.Prev) <;> cases cbB ins <;> rfl
        · simp only [hm, decide_false, Bool.not_false, if_true, not_false_eq_true]
theorem rcheck_eq (N : Nat) (hN : 70000 ≤ N) {v : Int} {ins : List S_api_Input} {outs : List S_api_Output} {lock : Int} (K : Kept ins outs) : ref09_Check N v ins outs lock = some (chk v ins outs lock) := by
  unfold ref09_Check chk
  rw [rfits_eq N hN K]
  cases hf : fitB v ins outs lock with
  | false => rfl
  | true =>
    obtain ⟨n1, n2, h0⟩ := fit_nonneg hf
    simp only [Option.bind_some, Bool.not_true, Bool.false_eq_true, if_false, lenz, ref09_Check_J1, Bool.true_eq_false]
    cases hi : ins.length == 0 with
    | true => rfl
    | false =>
      cases ho : outs.length == 0 with
      | true => rfl
      | false =>
        have hl := rmoney_loop N v ins outs lock n2 h0 N 0 0 (by omega) (by omega) (by omega) (by omega)
        rw [show ((0 : Nat) : Int) = 0 from rfl, List.drop_zero, Int.zero_add] at hl
        simp only [Bool.false_eq_true, if_false, Bool.or_self, hl, Option.bind_some]
        cases ha : (outs.all fun o => decide (o.Value ≤ 2100000000000000)) with
        | false =>
          have := sumO_big h0 ha
          simp only [Bool.false_eq_true, if_false, this, not_false_eq_true, if_true]
        | true =>
          simp only [if_true, ref09_Check_J2]
          by_cases hm : sumO outs ≤ 2100000000000000
          · simp only [hm, not_true_eq_false, if_false, decide_eq_false (show ¬ 2100000000000000 < sumO outs by omega), Bool.false_eq_true, rdup_loop N hN v ins outs lock (by omega), Option.bind_some]
            cases hd : (List.range' 0 ins.length).all (nd ins) with
            | false => rfl
            | true =>
              have l5 := loop_all (f := ref09_Check_L5 N v ins outs lock) (xs := ins) (p := fun x => !(nullB x.Prev && !cbB ins)) (r := 92) (fun m j hj => by
                  rw [ref09_Check_L5, dT hj, if_pos rfl, idx_lt ins hj]
                  simp only [Option.bind_some, ref09_Null, (coinbase_eq N v ins outs lock).2, ref09_Check_J6, i1 (show j ≤ 100000 by omega)]
                  show (if nullB ins[j].Prev = true then _ else _) = _
                  cases nullB ins[j].Prev <;> cases cbB ins <;> rfl) (fun m j hj => by rw [ref09_Check_L5, dF (by omega)]; rfl) N 0 (by omega) (by omega)
              rw [show ((0 : Nat) : Int) = 0 from rfl, List.drop_zero] at l5
              simp only [if_true, ref09_Check_J3, l5, Option.bind_some, Bool.true_eq_false, if_false]
              have e : (ins.all fun x => !(nullB x.Prev && !cbB ins)) = !((ins.any fun x => nullB x.Prev) && !cbB ins) := by
                cases cbB ins with
                | true => simp
                | false =>
                  simp only [Bool.not_false, Bool.and_true]
                  rw [Bool.eq_iff_iff]
                  simp
              rw [e]
              cases ((ins.any fun x => nullB x.Prev) && !cbB ins) <;> rfl
          · simp only [hm, not_false_eq_true, if_true, decide_eq_true (show 2100000000000000 < sumO outs by omega)]
end Go.Proofs.Ytbjiaiobpbpjoaa
