/- Texts of ours, joined: PlainW2, PlainW3, PlainH1, PlainH2, PlainM, PlainM2, PlainM3, TyF. -/
import Derived.Test.YtnoofjkaeidagaaDoorQSpendMessages3
set_option linter.unusedSimpArgs false
set_option linter.unusedVariables false
set_option linter.unusedSectionVars false
namespace Go.Proofs.YtnoofjkaeidagaaDoor
open Go Go.Vm
structure Kept (ins : List S_api_Input) (outs : List S_api_Output) : Prop where
  ni : ins.length ≤ 70
  no : outs.length ≤ 70
  wit : ∀ x ∈ ins, x.Witness.length ≤ 40 ∧ ∀ w ∈ x.Witness, w.length ≤ 600
  scr : ∀ o ∈ outs, o.Script.length ≤ 600
  tx : ∀ x ∈ ins, x.Prev.Tx.length = 32
def inB (x : S_api_Input) : List Int := (x.Prev.Tx ++ u32B x.Prev.Index) ++ u32B x.Sequence
def itB (w : List Int) : List Int := szB w.length ++ w
def wiB (x : S_api_Input) : List Int := szB x.Witness.length ++ x.Witness.flatMap itB
def encB (v : Int) (ins : List S_api_Input) (outs : List S_api_Output) (lock : Int) (wit : Bool) : List Int :=
  ((((u32B v ++ szB ins.length) ++ ins.flatMap inB) ++ szB outs.length) ++ outs.flatMap outB) ++ u32B lock ++ (if wit then ins.flatMap wiB else [])
theorem flat_le {α : Type} {g : α → List Int} {c : Nat} : ∀ (l : List α), (∀ x ∈ l, (g x).length ≤ c) → (l.flatMap g).length ≤ l.length * c
  | [], _ => by simp
  | x :: l, h => by
    have h1 := h x (by simp)
    have h2 := flat_le l (fun y hy => h y (by simp [hy]))
    rw [List.flatMap_cons, List.length_append, List.length_cons, Nat.add_mul, Nat.one_mul]; omega
theorem itB_le {w : List Int} (h : w.length ≤ 600) : (itB w).length ≤ 605 := by have := szB_len w.length; simp only [itB, List.length_append]; omega
theorem wiB_le {x : S_api_Input} (h : x.Witness.length ≤ 40 ∧ ∀ w ∈ x.Witness, w.length ≤ 600) : (wiB x).length ≤ 24205 := by
  have h1 := szB_len x.Witness.length
  have h2 := flat_le (g := itB) (c := 605) x.Witness (fun w hw => itB_le (h.2 w hw))
  have h3 := Nat.mul_le_mul_right 605 h.1
  simp only [wiB, List.length_append]; omega
theorem inB_len {x : S_api_Input} (h : x.Prev.Tx.length = 32) : (inB x).length = 40 := by simp [inB, u32B_len, h]
theorem outB_le {o : S_api_Output} (h : o.Script.length ≤ 600) : (outB o).length ≤ 613 := by
  have := szB_len o.Script.length
  simp only [outB, List.length_append, u64B_len]; omega
theorem insB_le {ins : List S_api_Input} {outs : List S_api_Output} (K : Kept ins outs) : (ins.flatMap inB).length ≤ 2800 := by
  have := flat_le (g := inB) (c := 40) ins (fun x hx => Nat.le_of_eq (inB_len (K.tx x hx)))
  have := Nat.mul_le_mul_right 40 K.ni
  omega
theorem outsB_le {ins : List S_api_Input} {outs : List S_api_Output} (K : Kept ins outs) : (outs.flatMap outB).length ≤ 42910 := by
  have := flat_le (g := outB) (c := 613) outs (fun x hx => outB_le (K.scr x hx))
  have := Nat.mul_le_mul_right 613 K.no
  omega
theorem wisB_le {ins : List S_api_Input} {outs : List S_api_Output} (K : Kept ins outs) : (ins.flatMap wiB).length ≤ 1694350 := by
  have := flat_le (g := wiB) (c := 24205) ins (fun x hx => wiB_le (K.wit x hx))
  have := Nat.mul_le_mul_right 24205 K.ni
  omega
section
variable (N : Nat) (hN : 70000 ≤ N) {v : Int} {ins : List S_api_Input} {outs : List S_api_Output} {lock : Int} (K : Kept ins outs)
include hN K
theorem aL8 (b : Bool) (acc : List Int) (h : acc.length ≤ 100000) : tx_encode_L8 N v ins outs lock b N 0 acc = some (acc ++ ins.flatMap inB) := by
  have hn := K.ni
  have hl := insB_le K
  refine loop_flat (f := tx_encode_L8 N v ins outs lock b) (xs := ins) (g := inB) (B := 200000) (by omega) (fun m j acc hj hB => ?_) (fun m j acc hj => ?_) N 0 acc (by omega) (by omega) (by rw [List.drop_zero]; omega)
  · have ht := K.tx _ (List.getElem_mem hj)
    rw [inB_len ht] at hB
    rw [tx_encode_L8, dT hj, if_pos rfl, idx_lt ins hj]
    simp only [Option.bind_some, aPoint N hN _ _ ht]
    rw [appB (by simp [u32B_len]; omega)]
    simp only [Option.bind_some, aU32 N hN _ _ (show ([] : List Int).length ≤ 40000000 by simp), List.nil_append]
    rw [appB (by simp [u32B_len]; omega)]
    simp only [Option.bind_some, i1 (show j ≤ 100000 by omega), inB, List.append_assoc]
  · rw [tx_encode_L8, dF (by omega)]; rfl
theorem rL8 (b : Bool) (acc : List Int) (h : acc.length ≤ 100000) : ref09_encode_L8 N v ins outs lock b N 0 acc = some (acc ++ ins.flatMap inB) := by
  have hn := K.ni
  have hl := insB_le K
  refine loop_flat (f := ref09_encode_L8 N v ins outs lock b) (xs := ins) (g := inB) (B := 200000) (by omega) (fun m j acc hj hB => ?_) (fun m j acc hj => ?_) N 0 acc (by omega) (by omega) (by rw [List.drop_zero]; omega)
  · have ht := K.tx _ (List.getElem_mem hj)
    rw [inB_len ht] at hB
    rw [ref09_encode_L8, dT hj, if_pos rfl, idx_lt ins hj]
    simp only [Option.bind_some, rPoint N hN _ _ ht]
    rw [appB (by simp [u32B_len]; omega)]
    simp only [Option.bind_some]
    rw [rU32 N hN (acc ++ (ins[j].Prev.Tx ++ u32B ins[j].Prev.Index)) _ (by simp [u32B_len]; omega)]
    simp only [Option.bind_some, ref09_encode_J9, i1 (show j ≤ 100000 by omega), inB, List.append_assoc]
  · rw [ref09_encode_L8, dF (by omega)]; rfl
theorem aL7 (b : Bool) (acc : List Int) (h : acc.length ≤ 100000) : tx_encode_L7 N v ins outs lock b N 0 acc = some (acc ++ outs.flatMap outB) := by
  have hn := K.no
  have hl := outsB_le K
  refine loop_flat (f := tx_encode_L7 N v ins outs lock b) (xs := outs) (g := outB) (B := 200000) (by omega) (fun m j acc hj hB => ?_) (fun m j acc hj => ?_) N 0 acc (by omega) (by omega) (by rw [List.drop_zero]; omega)
  · have ht := K.scr _ (List.getElem_mem hj)
    have hs := szB_len outs[j].Script.length
    rw [tx_encode_L7, dT hj, if_pos rfl, idx_lt outs hj]
    simp only [Option.bind_some, aU64 N hN _ _ (show ([] : List Int).length ≤ 40000000 by simp), List.nil_append]
    rw [appB (by rw [u64B_len]; omega)]
    simp only [Option.bind_some, aBytes N hN [] _ (show outs[j].Script.length ≤ 1000000 by omega) (by simp), List.nil_append]
    rw [appB (by simp only [List.length_append, u64B_len]; omega)]
    simp only [Option.bind_some, i1 (show j ≤ 100000 by omega), outB, List.append_assoc]
  · rw [tx_encode_L7, dF (by omega)]; rfl
theorem rL7 (b : Bool) (acc : List Int) (h : acc.length ≤ 100000) : ref09_encode_L7 N v ins outs lock b N 0 acc = some (acc ++ outs.flatMap outB) := by
  have hn := K.no
  have hl := outsB_le K
  refine loop_flat (f := ref09_encode_L7 N v ins outs lock b) (xs := outs) (g := outB) (B := 200000) (by omega) (fun m j acc hj hB => ?_) (fun m j acc hj => ?_) N 0 acc (by omega) (by omega) (by rw [List.drop_zero]; omega)
  · have ht := K.scr _ (List.getElem_mem hj)
    rw [ref09_encode_L7, dT hj, if_pos rfl, idx_lt outs hj]
    simp only [Option.bind_some, rOut N hN _ ht]
    rw [appB (by omega)]
    simp only [Option.bind_some, i1 (show j ≤ 100000 by omega)]
  · rw [ref09_encode_L7, dF (by omega)]; rfl
theorem aL6 (x : Int) (w : S_api_Input) (hw : w.Witness.length ≤ 40 ∧ ∀ z ∈ w.Witness, z.length ≤ 600) (acc : List Int) (h : acc.length ≤ 5000000) : tx_encode_L6 N ins x w N 0 acc = some (acc ++ w.Witness.flatMap itB) := by
  have hl := flat_le (g := itB) (c := 605) w.Witness (fun z hz => itB_le (hw.2 z hz))
  have := Nat.mul_le_mul_right 605 hw.1
  refine loop_flat (f := tx_encode_L6 N ins x w) (xs := w.Witness) (g := itB) (B := 6000000) (by omega) (fun m j acc hj hB => ?_) (fun m j acc hj => ?_) N 0 acc (by omega) (by omega) (by rw [List.drop_zero]; omega)
  · have ht := hw.2 _ (List.getElem_mem hj)
    rw [tx_encode_L6, dT hj, if_pos rfl, idx_lt w.Witness hj]
    simp only [Option.bind_some, aBytes N hN [] _ (show w.Witness[j].length ≤ 1000000 by omega) (by simp), List.nil_append]
    rw [appB (by simp only [itB] at hB; omega)]
    simp only [Option.bind_some, i1 (show j ≤ 100000 by omega), itB]
  · rw [tx_encode_L6, dF (by omega)]; rfl
theorem rL6 (b : Bool) (x : Int) (w : S_api_Input) (hw : w.Witness.length ≤ 40 ∧ ∀ z ∈ w.Witness, z.length ≤ 600) (acc : List Int) (h : acc.length ≤ 5000000) : ref09_encode_L6 N ins b x w N 0 acc = some (acc ++ w.Witness.flatMap itB) := by
  have hl := flat_le (g := itB) (c := 605) w.Witness (fun z hz => itB_le (hw.2 z hz))
  have := Nat.mul_le_mul_right 605 hw.1
  refine loop_flat (f := ref09_encode_L6 N ins b x w) (xs := w.Witness) (g := itB) (B := 6000000) (by omega) (fun m j acc hj hB => ?_) (fun m j acc hj => ?_) N 0 acc (by omega) (by omega) (by rw [List.drop_zero]; omega)
  · have ht := hw.2 _ (List.getElem_mem hj)
    rw [ref09_encode_L6, dT hj, if_pos rfl, idx_lt w.Witness hj]
    simp only [Option.bind_some]
    rw [rBytes N hN acc _ (show w.Witness[j].length ≤ 1000000 by omega) (by omega)]
    simp only [Option.bind_some, i1 (show j ≤ 100000 by omega), itB]
  · rw [ref09_encode_L6, dF (by omega)]; rfl
theorem aL4 (acc : List Int) (h : acc.length ≤ 1000000) : tx_encode_L4 N ins N 0 acc = some (acc ++ ins.flatMap wiB) := by
  have hn := K.ni
  have hl := wisB_le K
  refine loop_flat (f := tx_encode_L4 N ins) (xs := ins) (g := wiB) (B := 4000000) (by omega) (fun m j acc hj hB => ?_) (fun m j acc hj => ?_) N 0 acc (by omega) (by omega) (by rw [List.drop_zero]; omega)
  · have ht := K.wit _ (List.getElem_mem hj)
    have hs := szB_len ins[j].Witness.length
    rw [tx_encode_L4, dT hj, if_pos rfl, idx_lt ins hj]
    simp only [Option.bind_some, aSize N hN [] _ (show ins[j].Witness.length ≤ 1000000 by omega) (by simp), List.nil_append]
    rw [appB (by omega)]
    simp only [Option.bind_some]
    rw [aL6 N hN K _ _ ht _ (by rw [List.length_append]; omega)]
    simp only [Option.bind_some, tx_encode_J5, i1 (show j ≤ 100000 by omega), wiB, List.append_assoc]
  · rw [tx_encode_L4, dF (by omega)]; rfl
theorem rL4 (acc : List Int) (h : acc.length ≤ 1000000) : ref09_encode_L4 N ins true N 0 acc = some (acc ++ ins.flatMap wiB) := by
  have hn := K.ni
  have hl := wisB_le K
  refine loop_flat (f := ref09_encode_L4 N ins true) (xs := ins) (g := wiB) (B := 4000000) (by omega) (fun m j acc hj hB => ?_) (fun m j acc hj => ?_) N 0 acc (by omega) (by omega) (by rw [List.drop_zero]; omega)
  · have ht := K.wit _ (List.getElem_mem hj)
    have hs := szB_len ins[j].Witness.length
    rw [ref09_encode_L4, dT hj, if_pos rfl, idx_lt ins hj]
    simp only [Option.bind_some, Bool.not_true, Bool.false_eq_true, if_false]
    rw [rSize N hN acc _ (show ins[j].Witness.length ≤ 1000000 by omega) (by omega)]
    simp only [Option.bind_some]
    rw [rL6 N hN K _ _ _ ht _ (by rw [List.length_append]; omega)]
    simp only [Option.bind_some, ref09_encode_J5, i1 (show j ≤ 100000 by omega), wiB, List.append_assoc]
  · rw [ref09_encode_L4, dF (by omega)]; rfl
theorem encode_eq : tx_encode N v ins outs lock true = some (encB v ins outs lock true) := by
  have hn := K.ni
  have ho := K.no
  have h1 := szB_len ins.length
  have h2 := szB_len outs.length
  have h3 := insB_le K
  have h4 := outsB_le K
  simp only [tx_encode, aU32 N hN [] _ (by simp), Option.bind_some, List.nil_append, aSize N hN [] _ (show ins.length ≤ 1000000 by omega) (by simp)]
  rw [appB (by rw [u32B_len]; omega)]
  simp only [Option.bind_some]
  rw [aL8 N hN K _ _ (by rw [List.length_append, u32B_len]; omega)]
  simp only [Option.bind_some, tx_encode_J1, aSize N hN [] _ (show outs.length ≤ 1000000 by omega) (by simp), List.nil_append]
  rw [appB (by simp only [List.length_append, u32B_len]; omega)]
  simp only [Option.bind_some]
  rw [aL7 N hN K _ _ (by simp only [List.length_append, u32B_len]; omega)]
  simp only [Option.bind_some, tx_encode_J2, aU32 N hN [] _ (show ([] : List Int).length ≤ 40000000 by simp), List.nil_append]
  rw [appB (by simp only [List.length_append, u32B_len]; omega)]
  simp only [Option.bind_some, Bool.not_true, Bool.false_eq_true, if_false]
  rw [aL4 N hN K _ (by simp only [List.length_append, u32B_len]; omega)]
  rfl
theorem rencode_eq : ref09_encode N v ins outs lock true = some (encB v ins outs lock true) := by
  have hn := K.ni
  have ho := K.no
  have h1 := szB_len ins.length
  have h2 := szB_len outs.length
  have h3 := insB_le K
  have h4 := outsB_le K
  simp only [ref09_encode, rU32 N hN [] _ (by simp), Option.bind_some, List.nil_append]
  rw [rSize N hN (u32B v) _ (show ins.length ≤ 1000000 by omega) (by rw [u32B_len]; omega)]
  simp only [Option.bind_some]
  rw [rL8 N hN K _ _ (by rw [List.length_append, u32B_len]; omega)]
  simp only [Option.bind_some, ref09_encode_J1]
  rw [rSize N hN _ _ (show outs.length ≤ 1000000 by omega) (by simp only [List.length_append, u32B_len]; omega)]
  simp only [Option.bind_some]
  rw [rL7 N hN K _ _ (by simp only [List.length_append, u32B_len]; omega)]
  simp only [Option.bind_some, ref09_encode_J2]
  rw [rU32 N hN _ _ (by simp only [List.length_append, u32B_len]; omega)]
  simp only [Option.bind_some]
  rw [rL4 N hN K _ (by simp only [List.length_append, u32B_len]; omega)]
  rfl
end
end Go.Proofs.YtnoofjkaeidagaaDoor
set_option linter.unusedSimpArgs false
set_option linter.unusedVariables false
set_option linter.unusedSectionVars false
set_option maxRecDepth 4000
namespace Go.Proofs.YtnoofjkaeidagaaDoor
open Go Go.Vm
theorem nle (a b : Nat) : decide ((a : Int) < (b : Int)) = !decide (b ≤ a) := by
  by_cases h : a < b
  · rw [decide_eq_true (by omega), decide_eq_false (by omega)]; rfl
  · rw [decide_eq_false (by omega), decide_eq_true (by omega)]; rfl
theorem dle (n : Nat) : decide ((n : Int) ≤ 20000) = decide (n ≤ 20000) := by
  by_cases h : n ≤ 20000
  · rw [decide_eq_true h, decide_eq_true (by omega)]
  · rw [decide_eq_false h, decide_eq_false (by omega)]
theorem items_eq (N : Nat) (hN : 70000 ≤ N) (l : List (List Int)) (n k : Nat) (hn : n ≤ 1000) : keep_Items N l (n : Int) (k : Int) = some (decide (l.length ≤ n) && l.all fun w => decide (w.length ≤ k)) := by
  unfold keep_Items
  rw [nle]
  by_cases h : l.length ≤ n
  · rw [decide_eq_true h]
    simp only [Bool.not_true, Bool.false_eq_true, if_false, Bool.true_and]
    have := loop_all (f := keep_Items_L2 N l (k : Int)) (xs := l) (p := fun w => decide (w.length ≤ k)) (r := false) (fun m j hj => by
        rw [keep_Items_L2, dT hj, if_pos rfl, idx_lt l hj]
        simp only [Option.bind_some, nle, i1 (show j ≤ 100000 by omega)]
        cases decide (l[j].length ≤ k) <;> rfl) (fun m j hj => by rw [keep_Items_L2, dF (by omega)]; rfl) N 0 (by omega) (by omega)
    rw [show ((0 : Nat) : Int) = 0 from rfl, List.drop_zero] at this
    rw [this]
    cases l.all fun w => decide (w.length ≤ k) <;> rfl
  · rw [decide_eq_false h]; rfl
def keptI (x : S_api_Input) : Bool := decide (x.Witness.length ≤ 40) && x.Witness.all fun w => decide (w.length ≤ 600)
def keptB (ins : List S_api_Input) (outs : List S_api_Output) : Bool := decide (ins.length ≤ 70) && decide (outs.length ≤ 70) && ins.all keptI && outs.all fun o => decide (o.Script.length ≤ 600)
theorem keepTx_eq (N : Nat) (hN : 70000 ≤ N) (v : Int) (ins : List S_api_Input) (outs : List S_api_Output) (lock : Int) : keep_Tx N v ins outs lock = some (keptB ins outs) := by
  unfold keep_Tx keptB
  rw [show (70 : Int) = ((70 : Nat) : Int) from rfl, nle, nle]
  by_cases h : ins.length ≤ 70
  · rw [decide_eq_true h]
    simp only [Bool.not_true, Bool.false_eq_true, if_false, Bool.true_and, keep_Tx_J1]
    by_cases h2 : outs.length ≤ 70
    · rw [decide_eq_true h2]
      simp only [Bool.not_true, Bool.false_eq_true, if_false, Bool.true_and]
      have l5 := loop_all (f := keep_Tx_L5 N v ins outs lock) (xs := ins) (p := keptI) (r := false) (fun m j hj => by
          rw [keep_Tx_L5, dT hj, if_pos rfl, idx_lt ins hj]
          simp only [Option.bind_some, show (40 : Int) = ((40 : Nat) : Int) from rfl, show (600 : Int) = ((600 : Nat) : Int) from rfl, items_eq N hN _ 40 600 (by omega), i1 (show j ≤ 100000 by omega)]
          rw [show keptI ins[j] = (decide (ins[j].Witness.length ≤ 40) && ins[j].Witness.all fun w => decide (w.length ≤ 600)) from rfl]
          cases (decide (ins[j].Witness.length ≤ 40) && ins[j].Witness.all fun w => decide (w.length ≤ 600)) <;> rfl) (fun m j hj => by rw [keep_Tx_L5, dF (by omega)]; rfl) N 0 (by omega) (by omega)
      have l4 := loop_all (f := keep_Tx_L4 N outs) (xs := outs) (p := fun o => decide (o.Script.length ≤ 600)) (r := false) (fun m j hj => by
          rw [keep_Tx_L4, dT hj, if_pos rfl, idx_lt outs hj]
          simp only [Option.bind_some, show (600 : Int) = ((600 : Nat) : Int) from rfl, nle, i1 (show j ≤ 100000 by omega)]
          cases decide (outs[j].Script.length ≤ 600) <;> rfl) (fun m j hj => by rw [keep_Tx_L4, dF (by omega)]; rfl) N 0 (by omega) (by omega)
      rw [show ((0 : Nat) : Int) = 0 from rfl, List.drop_zero] at l5 l4
      rw [l5]
      cases ins.all keptI
      · rfl
      · simp only [Option.bind_some, if_true, keep_Tx_J2, l4, Bool.true_and]
        cases outs.all fun o => decide (o.Script.length ≤ 600) <;> rfl
    · rw [decide_eq_false h2]; rfl
  · rw [decide_eq_false h]; rfl
theorem kept_of {ins : List S_api_Input} {outs : List S_api_Output} (h : keptB ins outs = true) (ht : ∀ x ∈ ins, x.Prev.Tx.length = 32) : Kept ins outs := by
  simp only [keptB, Bool.and_eq_true, decide_eq_true_eq, List.all_eq_true] at h
  obtain ⟨⟨⟨h1, h2⟩, h3⟩, h4⟩ := h
  refine ⟨h1, h2, fun x hx => ?_, h4, ht⟩
  have := h3 x hx
  simp only [keptI, Bool.and_eq_true, decide_eq_true_eq, List.all_eq_true] at this
  exact this
def fitO (o : S_api_Output) : Bool := !decide (o.Value < 0) && decide (o.Script.length ≤ 520)
def fitI (x : S_api_Input) : Bool := decide (x.Witness.length ≤ 32) && x.Witness.all fun w => decide (w.length ≤ 520)
def fitB (v : Int) (ins : List S_api_Input) (outs : List S_api_Output) (lock : Int) : Bool :=
  decide (ins.length ≤ 64) && decide (outs.length ≤ 64) && outs.all fitO && ins.all fitI && decide ((encB v ins outs lock true).length ≤ 20000)
theorem fits_eq (N : Nat) (hN : 70000 ≤ N) {v : Int} {ins : List S_api_Input} {outs : List S_api_Output} {lock : Int} (K : Kept ins outs) : tx_fits N v ins outs lock = some (fitB v ins outs lock) := by
  have k1 := K.ni
  have k2 := K.no
  unfold tx_fits fitB
  rw [show (64 : Int) = ((64 : Nat) : Int) from rfl, nle, nle]
  by_cases h : ins.length ≤ 64
  · rw [decide_eq_true h]
    simp only [Bool.not_true, Bool.false_eq_true, if_false, Bool.true_and, tx_fits_J1]
    by_cases h2 : outs.length ≤ 64
    · rw [decide_eq_true h2]
      simp only [Bool.not_true, Bool.false_eq_true, if_false, Bool.true_and]
      have l7 := loop_all (f := tx_fits_L7 N v ins outs lock) (xs := outs) (p := fitO) (r := false) (fun m j hj => by
          rw [tx_fits_L7, dT hj, if_pos rfl, idx_lt outs hj]
          simp only [Option.bind_some, show (520 : Int) = ((520 : Nat) : Int) from rfl, nle, i1 (show j ≤ 100000 by omega), tx_fits_J8]
          rw [show fitO outs[j] = (!decide (outs[j].Value < 0) && decide (outs[j].Script.length ≤ 520)) from rfl]
          cases decide (outs[j].Value < 0) <;> cases decide (outs[j].Script.length ≤ 520) <;> rfl) (fun m j hj => by rw [tx_fits_L7, dF (by omega)]; rfl) N 0 (by omega) (by omega)
      have l6 : ∀ (x : Int) (w : S_api_Input), w.Witness.length ≤ 32 → tx_fits_L6 N v ins outs lock x w N 0 = some (if (w.Witness.all fun w => decide (w.length ≤ 520)) = true then .brk () else .ret false) := fun x w hw => by
        have := loop_all (f := tx_fits_L6 N v ins outs lock x w) (xs := w.Witness) (p := fun w => decide (w.length ≤ 520)) (r := false) (fun m j hj => by
          rw [tx_fits_L6, dT hj, if_pos rfl, idx_lt w.Witness hj]
          simp only [Option.bind_some, show (520 : Int) = ((520 : Nat) : Int) from rfl, nle, i1 (show j ≤ 100000 by omega)]
          cases decide (w.Witness[j].length ≤ 520) <;> rfl) (fun m j hj => by rw [tx_fits_L6, dF (by omega)]; rfl) N 0 (by omega) (by omega)
        rw [show ((0 : Nat) : Int) = 0 from rfl, List.drop_zero] at this
        exact this
      have l4 := loop_all (f := tx_fits_L4 N v ins outs lock) (xs := ins) (p := fitI) (r := false) (fun m j hj => by
          rw [tx_fits_L4, dT hj, if_pos rfl, idx_lt ins hj]
          simp only [Option.bind_some, show (32 : Int) = ((32 : Nat) : Int) from rfl, nle, i1 (show j ≤ 100000 by omega)]
          rw [show fitI ins[j] = (decide (ins[j].Witness.length ≤ 32) && ins[j].Witness.all fun w => decide (w.length ≤ 520)) from rfl]
          by_cases hw : ins[j].Witness.length ≤ 32
          · rw [decide_eq_true hw]
            simp only [Bool.not_true, Bool.false_eq_true, if_false, Bool.true_and, l6 _ _ hw, Option.bind_some, tx_fits_J5]
            cases ins[j].Witness.all fun w => decide (w.length ≤ 520)
            · rfl
            · simp only [if_true, i1 (show j ≤ 100000 by omega)]
          · rw [decide_eq_false hw]; rfl) (fun m j hj => by rw [tx_fits_L4, dF (by omega)]; rfl) N 0 (by omega) (by omega)
      rw [show ((0 : Nat) : Int) = 0 from rfl, List.drop_zero] at l7 l4
      rw [l7]
      cases outs.all fitO
      · rfl
      · simp only [Option.bind_some, if_true, tx_fits_J2, l4, Bool.true_and]
        cases ins.all fitI
        · rfl
        · simp only [Option.bind_some, if_true, tx_fits_J3, encode_eq N hN K, Bool.true_and]
          rw [dle]
    · rw [decide_eq_false h2]; rfl
  · rw [decide_eq_false h]; rfl
theorem rfits_eq (N : Nat) (hN : 70000 ≤ N) {v : Int} {ins : List S_api_Input} {outs : List S_api_Output} {lock : Int} (K : Kept ins outs) : ref09_Fits N v ins outs lock = some (fitB v ins outs lock) := by
  have k1 := K.ni
  have k2 := K.no
  unfold ref09_Fits fitB
  rw [show (64 : Int) = ((64 : Nat) : Int) from rfl, nle, nle]
  by_cases h : ins.length ≤ 64
  · rw [decide_eq_true h]
    simp only [Bool.not_true, Bool.false_eq_true, if_false, Bool.true_and, ref09_Fits_J1]
    by_cases h2 : outs.length ≤ 64
    · rw [decide_eq_true h2]
      simp only [Bool.not_true, Bool.false_eq_true, if_false, Bool.true_and]
      have l7 := loop_all (f := ref09_Fits_L7 N v ins outs lock) (xs := outs) (p := fitO) (r := false) (fun m j hj => by
          rw [ref09_Fits_L7, dT hj, if_pos rfl, idx_lt outs hj]
          simp only [Option.bind_some, show (520 : Int) = ((520 : Nat) : Int) from rfl, nle, i1 (show j ≤ 100000 by omega), ref09_Fits_J8]
          rw [show fitO outs[j] = (!decide (outs[j].Value < 0) && decide (outs[j].Script.length ≤ 520)) from rfl]
          cases decide (outs[j].Value < 0) <;> cases decide (outs[j].Script.length ≤ 520) <;> rfl) (fun m j hj => by rw [ref09_Fits_L7, dF (by omega)]; rfl) N 0 (by omega) (by omega)
      have l6 : ∀ (x : Int) (w : S_api_Input), w.Witness.length ≤ 32 → ref09_Fits_L6 N v ins outs lock x w N 0 = some (if (w.Witness.all fun w => decide (w.length ≤ 520)) = true then .brk () else .ret false) := fun x w hw => by
        have := loop_all (f := ref09_Fits_L6 N v ins outs lock x w) (xs := w.Witness) (p := fun w => decide (w.length ≤ 520)) (r := false) (fun m j hj => by
          rw [ref09_Fits_L6, dT hj, if_pos rfl, idx_lt w.Witness hj]
          simp only [Option.bind_some, show (520 : Int) = ((520 : Nat) : Int) from rfl, nle, i1 (show j ≤ 100000 by omega)]
          cases decide (w.Witness[j].length ≤ 520) <;> rfl) (fun m j hj => by rw [ref09_Fits_L6, dF (by omega)]; rfl) N 0 (by omega) (by omega)
        rw [show ((0 : Nat) : Int) = 0 from rfl, List.drop_zero] at this
        exact this
      have l4 := loop_all (f := ref09_Fits_L4 N v ins outs lock) (xs := ins) (p := fitI) (r := false) (fun m j hj => by
          rw [ref09_Fits_L4, dT hj, if_pos rfl, idx_lt ins hj]
          simp only [Option.bind_some, show (32 : Int) = ((32 : Nat) : Int) from rfl, nle, i1 (show j ≤ 100000 by omega)]
          rw [show fitI ins[j] = (decide (ins[j].Witness.length ≤ 32) && ins[j].Witness.all fun w => decide (w.length ≤ 520)) from rfl]
          by_cases hw : ins[j].Witness.length ≤ 32
          · rw [decide_eq_true hw]
            simp only [Bool.not_true, Bool.false_eq_true, if_false, Bool.true_and, l6 _ _ hw, Option.bind_some, ref09_Fits_J5]
            cases ins[j].Witness.all fun w => decide (w.length ≤ 520)
            · rfl
            · simp only [if_true, i1 (show j ≤ 100000 by omega)]
          · rw [decide_eq_false hw]; rfl) (fun m j hj => by rw [ref09_Fits_L4, dF (by omega)]; rfl) N 0 (by omega) (by omega)
      rw [show ((0 : Nat) : Int) = 0 from rfl, List.drop_zero] at l7 l4
      rw [l7]
      cases outs.all fitO
      · rfl
      · simp only [Option.bind_some, if_true, ref09_Fits_J2, l4, Bool.true_and]
        cases ins.all fitI
        · rfl
        · simp only [Option.bind_some, if_true, ref09_Fits_J3, rencode_eq N hN K, Bool.true_and]
          rw [dle]
    · rw [decide_eq_false h2]; rfl
  · rw [decide_eq_false h]; rfl
end Go.Proofs.YtnoofjkaeidagaaDoor
set_option linter.unusedSimpArgs false
set_option linter.unusedVariables false
set_option linter.unusedSectionVars false
namespace Go.Proofs.YtnoofjkaeidagaaDoor
open Go Go.Vm
theorem aix_nat {α : Type} {n : Nat} {l : List α} {i : Nat} (h : i < n) (hl : i < l.length) : aix n l (i : Int) = some l[i] := by
  unfold aix; rw [if_pos (by omega), idx_lt l hl]
theorem arr_ok {α : Type} {n : Nat} {l : List α} (h : l.length = n) : arr n l = some l := by unfold arr; rw [if_pos h]
theorem rot_ok (N : Nat) (x n s : Int) (hs : bits .and .u64 (IntKind.u64.wrap (IntKind.i64.wrap (0 - n))) 31 = s) (h0 : 0 ≤ s) (h1 : s ≤ 32) : ∃ y, sha_rotr N x n = some y := by
  unfold sha_rotr math_bits_RotateLeft32
  rw [hs, wu64 (a := 32 - s) (by omega) (by omega)]
  unfold shl shr
  rw [if_neg (by omega), if_neg (by omega)]
  exact ⟨_, rfl⟩
def rv (N : Nat) (x n : Int) : Int := (sha_rotr N x n).getD 0
theorem rv_of {N : Nat} {x n : Int} (h : ∃ y, sha_rotr N x n = some y) : sha_rotr N x n = some (rv N x n) := by obtain ⟨y, h⟩ := h; simp [rv, h]
theorem rv2 (N : Nat) (x : Int) : sha_rotr N x 2 = some (rv N x 2) := rv_of (rot_ok N x 2 30 (by decide +kernel) (by omega) (by omega))
theorem rv6 (N : Nat) (x : Int) : sha_rotr N x 6 = some (rv N x 6) := rv_of (rot_ok N x 6 26 (by decide +kernel) (by omega) (by omega))
theorem rv7 (N : Nat) (x : Int) : sha_rotr N x 7 = some (rv N x 7) := rv_of (rot_ok N x 7 25 (by decide +kernel) (by omega) (by omega))
theorem rv11 (N : Nat) (x : Int) : sha_rotr N x 11 = some (rv N x 11) := rv_of (rot_ok N x 11 21 (by decide +kernel) (by omega) (by omega))
theorem rv13 (N : Nat) (x : Int) : sha_rotr N x 13 = some (rv N x 13) := rv_of (rot_ok N x 13 19 (by decide +kernel) (by omega) (by omega))
theorem rv17 (N : Nat) (x : Int) : sha_rotr N x 17 = some (rv N x 17) := rv_of (rot_ok N x 17 15 (by decide +kernel) (by omega) (by omega))
theorem rv18 (N : Nat) (x : Int) : sha_rotr N x 18 = some (rv N x 18) := rv_of (rot_ok N x 18 14 (by decide +kernel) (by omega) (by omega))
theorem rv19 (N : Nat) (x : Int) : sha_rotr N x 19 = some (rv N x 19) := rv_of (rot_ok N x 19 13 (by decide +kernel) (by omega) (by omega))
theorem rv22 (N : Nat) (x : Int) : sha_rotr N x 22 = some (rv N x 22) := rv_of (rot_ok N x 22 10 (by decide +kernel) (by omega) (by omega))
theorem rv25 (N : Nat) (x : Int) : sha_rotr N x 25 = some (rv N x 25) := rv_of (rot_ok N x 25 7 (by decide +kernel) (by omega) (by omega))
theorem shr3 (x : Int) : shr .u32 x 3 = some (x.fdiv (2 ^ (min (3 : Int).toNat 32))) := by unfold shr; rw [if_neg (by omega)]; rfl
theorem shr10 (x : Int) : shr .u32 x 10 = some (x.fdiv (2 ^ (min (10 : Int).toNat 32))) := by unfold shr; rw [if_neg (by omega)]; rfl
theorem shaK_len : shaK.length = 64 := rfl
theorem shaI_len : shaI.length = 8 := rfl
theorem sL3 (N : Nat) : ∀ (m j : Nat) (l : List Int), l.length = 64 → 16 ≤ j → j ≤ 64 → 64 - j < m → ∃ r, sha_schedule_L3 N m (j : Int) l = some r ∧ r.length = 64
  | 0, j, l, _, _, _, hm => by omega
  | m + 1, j, l, hl, h1, h2, hm => by
    rw [sha_schedule_L3]
    by_cases h : j < 64
    · rw [show decide ((j : Int) < 64) = true from decide_eq_true (by omega), if_pos rfl]
      rw [w64 (a := (j : Int) - 15) (by omega) (by omega), show (j : Int) - 15 = ((j - 15 : Nat) : Int) by omega, aix_nat (show j - 15 < 64 by omega) (by omega)]
      rw [w64 (a := (j : Int) - 2) (by omega) (by omega), show (j : Int) - 2 = ((j - 2 : Nat) : Int) by omega, aix_nat (show j - 2 < 64 by omega) (by omega)]
      rw [w64 (a := (j : Int) - 16) (by omega) (by omega), show (j : Int) - 16 = ((j - 16 : Nat) : Int) by omega, aix_nat (show j - 16 < 64 by omega) (by omega)]
      rw [w64 (a := (j : Int) - 7) (by omega) (by omega), show (j : Int) - 7 = ((j - 7 : Nat) : Int) by omega, aix_nat (show j - 7 < 64 by omega) (by omega)]
      rw [aix_nat h (by omega)]
      simp only [Option.bind_some, rv7, rv18, rv17, rv19, shr3, shr10, i1 (show j ≤ 100000 by omega)]
      exact sL3 N m (j + 1) _ (by rw [List.length_set]; exact hl) (by omega) (by omega) (by omega)
    · rw [show decide ((j : Int) < 64) = false from decide_eq_false (by omega)]
      exact ⟨l, rfl, hl⟩
theorem cL2 (N : Nat) (st w : List Int) (hw : w.length = 64) : ∀ (m j : Nat) (a b c d e f g h : Int), j ≤ 64 → 64 - j < m → ∃ r, sha_Compress_L2 N st w m a b c d e f g h (j : Int) = some r
  | 0, j, _, _, _, _, _, _, _, _, _, hm => by omega
  | m + 1, j, a, b, c, d, e, f, g, h, hj, hm => by
    rw [sha_Compress_L2]
    by_cases h1 : j < 64
    · rw [show decide ((j : Int) < 64) = true from decide_eq_true (by omega), if_pos rfl, aix_nat h1 (show j < shaK.length from h1), aix_nat h1 (by omega)]
      simp only [Option.bind_some, rv2, rv6, rv11, rv13, rv22, rv25, i1 (show j ≤ 100000 by omega)]
      exact cL2 N st w hw m (j + 1) _ _ _ _ _ _ _ _ (by omega) (by omega)
    · rw [show decide ((j : Int) < 64) = false from decide_eq_false (by omega)]
      exact ⟨_, rfl⟩
def wd (b : List Nat) (i : Nat) : Nat := ((b.getD (4 * i) 0 * 256 + b.getD (4 * i + 1) 0) * 256 + b.getD (4 * i + 2) 0) * 256 + b.getD (4 * i + 3) 0
theorem getD_lt {b : List Nat} (h : ∀ x ∈ b, x < 256) (i : Nat) : b.getD i 0 < 256 := by
  rw [List.getD_eq_getElem?_getD]
  rcases Nat.lt_or_ge i b.length with hi | hi
  · rw [List.getElem?_eq_getElem hi]; exact h _ (List.getElem_mem hi)
  · rw [List.getElem?_eq_none hi]; simp
theorem or_add (a b k : Nat) (h : b < 2 ^ k) : a * 2 ^ k ||| b = a * 2 ^ k + b := by
  rw [Nat.mul_comm, ← Nat.two_pow_add_eq_or_of_lt h]
theorem orU (a b : Nat) (ha : a < 4294967296) (hb : b < 4294967296) : bits .or .u32 (a : Int) (b : Int) = ((a ||| b : Nat) : Int) := bits_or_nat rfl a b ha hb
theorem shlU (a b : Nat) : shl .u32 (a : Int) (b : Int) = some ((a * 2 ^ b % 4294967296 : Nat) : Int) := shl_nat rfl a b
theorem byteAt {b : List Nat} {i : Nat} (hl : b.length = 64) (hi : i < 64) : aix 64 (iN b) (i : Int) = some ((b.getD i 0 : Nat) : Int) := by
  rw [aix_nat hi (by rw [iN_len]; omega)]
  have h1 : i < b.length := by omega
  simp [iN, h1]
theorem wu32n (n : Nat) (h : n < 4294967296) : IntKind.u32.wrap (n : Int) = n := wu32 (by omega) (by omega)
def put16 (b : List Nat) (j : Nat) (l : List Int) : List Int := (List.range' j (16 - j)).foldl (fun l i => l.set i ((wd b i : Nat) : Int)) l
theorem put16_len (b : List Nat) (j : Nat) (l : List Int) : (put16 b j l).length = l.length := by
  unfold put16
  generalize List.range' j (16 - j) = r
  induction r generalizing l with
  | nil => rfl
  | cons x r ih => rw [List.foldl_cons, ih, List.length_set]
section
variable (N : Nat) (b : List Nat) (hl : b.length = 64) (hb : ∀ x ∈ b, x < 256)
include hl hb
theorem sL6 (i : Nat) (hi : i < 16) (m j : Nat) (hj : j < 4) (l : List Int) (hll : l.length = 64) (v : Nat) (hv : v < 16777216) (hli : l[i]? = some (v : Int)) :
    sha_schedule_L6 N (iN b) (i : Int) (m + 1) (j : Int) l = sha_schedule_L6 N (iN b) (i : Int) m ((j + 1 : Nat) : Int) (l.set i ((v * 256 + b.getD (4 * i + j) 0 : Nat) : Int)) := by
  have hil : i < l.length := by omega
  have hbl := getD_lt hb (4 * i + j)
  rw [sha_schedule_L6, show decide ((j : Int) < 4) = true from decide_eq_true (by omega), if_pos rfl, aix_nat (show i < 64 by omega) hil]
  rw [List.getElem?_eq_getElem hil] at hli
  rw [Option.some.inj hli, w64 (a := 4 * (i : Int)) (by omega) (by omega), w64 (a := 4 * (i : Int) + (j : Int)) (by omega) (by omega), show 4 * (i : Int) + (j : Int) = ((4 * i + j : Nat) : Int) by omega, byteAt hl (by omega)]
  rw [show (8 : Int) = ((8 : Nat) : Int) from rfl]
  simp only [Option.bind_some, shlU, Int.toNat_natCast, i1 (show j ≤ 100000 by omega)]
  rw [wu32n _ (by omega), orU _ _ (Nat.mod_lt _ (by omega)) (by omega), Nat.mod_eq_of_lt (by omega), or_add _ _ 8 (by omega)]
theorem sL6_all (i : Nat) (hi : i < 16) (l : List Int) (hll : l.length = 64) (hli : l[i]? = some 0) (hN : 10 ≤ N) : sha_schedule_L6 N (iN b) (i : Int) N 0 l = some (l.set i ((wd b i : Nat) : Int)) := by
  have g0 := getD_lt hb (4 * i)
  have g1 := getD_lt hb (4 * i + 1)
  have g2 := getD_lt hb (4 * i + 2)
  have hil : i < l.length := by omega
  obtain ⟨m, hm⟩ : ∃ m, N = m + 5 := ⟨N - 5, by omega⟩
  have hfu : ∀ k, sha_schedule_L6 N (iN b) (i : Int) N k l = sha_schedule_L6 N (iN b) (i : Int) (m + 1 + 1 + 1 + 1 + 1) k l := fun k => by
    have : N = m + 1 + 1 + 1 + 1 + 1 := by omega
    exact congrArg (fun q => sha_schedule_L6 N (iN b) (i : Int) q k l) this
  rw [hfu, show (0 : Int) = ((0 : Nat) : Int) from rfl, sL6 N b hl hb i hi _ 0 (by omega) l hll 0 (by omega) hli]
  rw [sL6 N b hl hb i hi _ 1 (by omega) _ (by rw [List.length_set]; exact hll) (0 * 256 + b.getD (4 * i + 0) 0) (by simp only [Nat.add_zero]; omega) (List.getElem?_set_self hil), List.set_set]
  rw [sL6 N b hl hb i hi _ 2 (by omega) _ (by rw [List.length_set]; exact hll) _ (by simp only [Nat.add_zero]; omega) (List.getElem?_set_self hil), List.set_set]
  rw [sL6 N b hl hb i hi _ 3 (by omega) _ (by rw [List.length_set]; exact hll) _ (by simp only [Nat.add_zero]; omega) (List.getElem?_set_self hil), List.set_set]
  rw [sha_schedule_L6]
  simp only [Nat.reduceAdd, show decide (((4 : Nat) : Int) < 4) = false from rfl, Bool.false_eq_true, if_false, wd, Nat.zero_mul, Nat.zero_add, Nat.add_zero]
omit hl hb in
theorem first16 {f : Nat → Int → List Int → Option (List Int)} (hs : ∀ (m j : Nat) (l : List Int), j < 16 → l.length = 64 → l[j]? = some 0 → f (m + 1) (j : Int) l = f m ((j + 1 : Nat) : Int) (l.set j ((wd b j : Nat) : Int))) (he : ∀ m l, f (m + 1) 16 l = some l) :
    ∀ (m j : Nat) (l : List Int), 16 - j < m → j ≤ 16 → l.length = 64 → (∀ i, j ≤ i → i < 64 → l[i]? = some 0) → f m (j : Int) l = some (put16 b j l)
  | 0, j, l, hm, _, _, _ => by omega
  | m + 1, j, l, hm, hj, hll, hz => by
    by_cases h : j < 16
    · rw [hs m j l h hll (hz j (Nat.le_refl _) (by omega)), first16 hs he m (j + 1) _ (by omega) (by omega) (by rw [List.length_set]; exact hll) (fun i h1 h2 => by rw [List.getElem?_set_ne (by omega)]; exact hz i (by omega) h2)]
      unfold put16
      rw [show 16 - j = (16 - (j + 1)) + 1 by omega, List.range'_succ, List.foldl_cons]
    · obtain rfl : j = 16 := by omega
      exact he m l
theorem sL4 (hN : 70000 ≤ N) : sha_schedule_L4 N (iN b) N 0 (List.replicate 64 0) = some (put16 b 0 (List.replicate 64 0)) := by
  refine first16 b (f := sha_schedule_L4 N (iN b)) (fun m j l hj hll hz => ?_) (fun m l => by rw [sha_schedule_L4]; rfl) N 0 _ (by omega) (by omega) (by simp) (fun i _ hi => by rw [List.getElem?_replicate, if_pos hi])
  rw [sha_schedule_L4, show decide ((j : Int) < 16) = true from decide_eq_true (by omega), if_pos rfl, sL6_all N b hl hb j hj l hll hz (by omega)]
  simp only [Option.bind_some, sha_schedule_J5, i1 (show j ≤ 100000 by omega)]
theorem rL4' (hN : 70000 ≤ N) : ref03_schedule_L4 N (iN b) N 0 (List.replicate 64 0) = some (put16 b 0 (List.replicate 64 0)) := by
  refine first16 b (f := ref03_schedule_L4 N (iN b)) (fun m j l hj hll hz => ?_) (fun m l => by rw [ref03_schedule_L4]; rfl) N 0 _ (by omega) (by omega) (by simp) (fun i _ hi => by rw [List.getElem?_replicate, if_pos hi])
  have g0 := getD_lt hb (4 * j)
  have g1 := getD_lt hb (4 * j + 1)
  have g2 := getD_lt hb (4 * j + 2)
  have g3 := getD_lt hb (4 * j + 3)
  rw [ref03_schedule_L4, show decide ((j : Int) < 16) = true from decide_eq_true (by omega), if_pos rfl]
  rw [w64 (a := 4 * (j : Int)) (by omega) (by omega), w64 (a := 4 * (j : Int) + 1) (by omega) (by omega), w64 (a := 4 * (j : Int) + 2) (by omega) (by omega), w64 (a := 4 * (j : Int) + 3) (by omega) (by omega)]
  rw [show 4 * (j : Int) = ((4 * j : Nat) : Int) by omega, show ((4 * j : Nat) : Int) + 1 = ((4 * j + 1 : Nat) : Int) by omega, show ((4 * j : Nat) : Int) + 2 = ((4 * j + 2 : Nat) : Int) by omega, show ((4 * j : Nat) : Int) + 3 = ((4 * j + 3 : Nat) : Int) by omega]
  rw [byteAt hl (by omega), byteAt hl (by omega), byteAt hl (by omega), byteAt hl (by omega), aix_nat (show j < 64 by omega) (by omega)]
  rw [show (24 : Int) = ((24 : Nat) : Int) from rfl, show (16 : Int) = ((16 : Nat) : Int) from rfl, show (8 : Int) = ((8 : Nat) : Int) from rfl]
  simp only [Option.bind_some, Int.toNat_natCast, i1 (show j ≤ 100000 by omega), wu32n _ (show b.getD (4 * j) 0 < 4294967296 by omega), wu32n _ (show b.getD (4 * j + 1) 0 < 4294967296 by omega), wu32n _ (show b.getD (4 * j + 2) 0 < 4294967296 by omega), wu32n _ (show b.getD (4 * j + 3) 0 < 4294967296 by omega), shlU]
  congr 2
  unfold wd
  generalize b.getD (4 * j) 0 = a0 at *
  generalize b.getD (4 * j + 1) 0 = a1 at *
  generalize b.getD (4 * j + 2) 0 = a2 at *
  generalize b.getD (4 * j + 3) 0 = a3 at *
  rw [Nat.mod_eq_of_lt (show a0 * 2 ^ 24 < 4294967296 by omega), Nat.mod_eq_of_lt (show a1 * 2 ^ 16 < 4294967296 by omega), Nat.mod_eq_of_lt (show a2 * 2 ^ 8 < 4294967296 by omega)]
  rw [orU _ _ (by omega) (by omega), or_add a0 _ 24 (by omega)]
  rw [show a0 * 2 ^ 24 + a1 * 2 ^ 16 = (a0 * 2 ^ 8 + a1) * 2 ^ 16 by omega, orU _ _ (by omega) (by omega), or_add _ (a2 * 2 ^ 8) 16 (by omega)]
  rw [show (a0 * 2 ^ 8 + a1) * 2 ^ 16 + a2 * 2 ^ 8 = ((a0 * 2 ^ 8 + a1) * 2 ^ 8 + a2) * 2 ^ 8 by omega, orU _ _ (by omega) (by omega), or_add _ a3 8 (by omega)]
end
theorem rotr_same (N : Nat) (x n : Int) : ref03_rotr N x n = sha_rotr N x n := rfl
theorem L3_same (N : Nat) : ∀ (m : Nat) (i : Int) (l : List Int), ref03_schedule_L3 N m i l = sha_schedule_L3 N m i l
  | 0, _, _ => rfl
  | m + 1, i, l => by simp only [ref03_schedule_L3, sha_schedule_L3, rotr_same, L3_same N m]
theorem cL2_same (N : Nat) (st w : List Int) : ∀ (m : Nat) (a b c d e f g h i : Int), ref03_Compress_L2 N st w shaK m a b c d e f g h i = sha_Compress_L2 N st w m a b c d e f g h i
  | 0, _, _, _, _, _, _, _, _, _ => rfl
  | m + 1, a, b, c, d, e, f, g, h, i => by simp only [ref03_Compress_L2, sha_Compress_L2, rotr_same, cL2_same N st w m]
section
variable (N : Nat) (hN : 70000 ≤ N) (b : List Nat) (hl : b.length = 64) (hb : ∀ x ∈ b, x < 256)
include hN hl hb
theorem sched : ∃ w, sha_schedule N (iN b) = some w ∧ w.length = 64 ∧ ref03_schedule N (iN b) = some w := by
  obtain ⟨w, h1, h2⟩ := sL3 N N 16 (put16 b 0 (List.replicate 64 0)) (by rw [put16_len]; simp) (by omega) (by omega) (by omega)
  rw [show ((16 : Nat) : Int) = 16 from rfl] at h1
  refine ⟨w, ?_, h2, ?_⟩
  · simp only [sha_schedule, sL4 N b hl hb hN, Option.bind_some, sha_schedule_J1, h1, sha_schedule_J2, arr_ok h2]
  · simp only [ref03_schedule, rL4' N b hl hb hN, Option.bind_some, ref03_schedule_J1, L3_same, h1, ref03_schedule_J2, arr_ok h2]
theorem compress (st : List Int) (hst : st.length = 8) : ∃ r, sha_Compress N st (iN b) = some r ∧ r.length = 8 ∧ ref03_Compress N st (iN b) = some r := by
  obtain ⟨w, h1, h2, h3⟩ := sched N hN b hl hb
  have hbl : (iN b).length = 64 := by rw [iN_len]; exact hl
  have a0 : aix 8 st 0 = some st[0] := aix_nat (i := 0) (by omega) (by omega)
  have a1 : aix 8 st 1 = some st[1] := aix_nat (i := 1) (by omega) (by omega)
  have a2 : aix 8 st 2 = some st[2] := aix_nat (i := 2) (by omega) (by omega)
  have a3 : aix 8 st 3 = some st[3] := aix_nat (i := 3) (by omega) (by omega)
  have a4 : aix 8 st 4 = some st[4] := aix_nat (i := 4) (by omega) (by omega)
  have a5 : aix 8 st 5 = some st[5] := aix_nat (i := 5) (by omega) (by omega)
  have a6 : aix 8 st 6 = some st[6] := aix_nat (i := 6) (by omega) (by omega)
  have a7 : aix 8 st 7 = some st[7] := aix_nat (i := 7) (by omega) (by omega)
  obtain ⟨r, hr⟩ := cL2 N st w h2 N 0 st[0] st[1] st[2] st[3] st[4] st[5] st[6] st[7] (by omega) (by omega)
  rw [show ((0 : Nat) : Int) = 0 from rfl] at hr
  refine ⟨[IntKind.u32.wrap (st[0] + r.1), IntKind.u32.wrap (st[1] + r.2.1), IntKind.u32.wrap (st[2] + r.2.2.1), IntKind.u32.wrap (st[3] + r.2.2.2.1), IntKind.u32.wrap (st[4] + r.2.2.2.2.1), IntKind.u32.wrap (st[5] + r.2.2.2.2.2.1), IntKind.u32.wrap (st[6] + r.2.2.2.2.2.2.1), IntKind.u32.wrap (st[7] + r.2.2.2.2.2.2.2)], ?_, rfl, ?_⟩
  · simp only [sha_Compress, arr_ok hbl, h1, arr_ok h2, a0, a1, a2, a3, a4, a5, a6, a7, Option.bind_some, hr, sha_Compress_J1]
  · have hK : ref03_constants N = some shaK := rfl
    have hKl : arr 64 shaK = some shaK := rfl
    simp only [ref03_Compress, arr_ok hbl, h3, hK, hKl, arr_ok h2, a0, a1, a2, a3, a4, a5, a6, a7, Option.bind_some, cL2_same, hr, ref03_Compress_J1]
end
end Go.Proofs.YtnoofjkaeidagaaDoor
set_option linter.unusedSimpArgs false
set_option linter.unusedVariables false
set_option linter.unusedSectionVars false
namespace Go.Proofs.YtnoofjkaeidagaaDoor
open Go Go.Vm
def beG (n : Nat) (i : Nat) : Int := IntKind.u8.wrap ((IntKind.u64.wrap (8 * (n : Int))).fdiv (2 ^ (56 - 8 * i)))
def zer (n : Nat) : Nat := (64 - (n + 9) % 64) % 64
def padB (n : Nat) : List Int := (128 :: List.replicate (zer n) 0) ++ (List.range' 0 8).map (beG n)
theorem padB_len (n : Nat) : (padB n).length = 9 + zer n := by simp [padB]; omega
theorem u8_byt (x : Int) : 0 ≤ IntKind.u8.wrap x ∧ IntKind.u8.wrap x < 256 := by rw [IntKind.wrap_u8]; omega
theorem padB_byt (n : Nat) : Byt (padB n) := by
  intro x hx
  simp only [padB, List.mem_append, List.mem_cons, List.mem_replicate, List.mem_map] at hx
  rcases hx with (rfl | ⟨_, rfl⟩) | ⟨i, _, rfl⟩
  · omega
  · omega
  · exact u8_byt _
theorem shr64 (a : Int) (s : Nat) (h : s ≤ 64) : shr .u64 a (s : Int) = some (a.fdiv (2 ^ s)) := by
  unfold shr
  rw [if_neg (by omega), Int.toNat_natCast, show min s IntKind.u64.bits = s from Nat.min_eq_left h]
theorem pad_loop (N n : Nat) : ∀ (k m : Nat) (acc : List Int), k ≤ 8 → k < m → acc.length + k ≤ 1000 → sha_Pad_L2 N (n : Int) m ((8 - k : Nat) : Int) acc = some (acc ++ (List.range' (8 - k) k).map (beG n))
  | 0, m, acc, _, hm, _ => by
    obtain ⟨m, rfl⟩ : ∃ q, m = q + 1 := ⟨m - 1, by omega⟩
    rw [sha_Pad_L2, show decide (((8 - 0 : Nat) : Int) < 8) = false from rfl]; simp
  | k + 1, m, acc, hk, hm, ha => by
    obtain ⟨m, rfl⟩ : ∃ q, m = q + 1 := ⟨m - 1, by omega⟩
    rw [sha_Pad_L2, show decide (((8 - (k + 1) : Nat) : Int) < 8) = true from decide_eq_true (by omega), if_pos rfl]
    rw [w64 (a := 8 * ((8 - (k + 1) : Nat) : Int)) (by omega) (by omega), w64 (a := 56 - 8 * ((8 - (k + 1) : Nat) : Int)) (by omega) (by omega), show 56 - 8 * ((8 - (k + 1) : Nat) : Int) = ((56 - 8 * (8 - (k + 1)) : Nat) : Int) by omega, shr64 _ _ (by omega)]
    simp only [Option.bind_some]
    rw [appB (by simp; omega)]
    simp only [Option.bind_some, i1 (show 8 - (k + 1) ≤ 100000 by omega)]
    rw [show 8 - (k + 1) + 1 = 8 - k by omega, pad_loop N n k m _ (by omega) (by omega) (by simp; omega), List.range'_succ, List.map_cons, show 8 - (k + 1) + 1 = 8 - k by omega, List.append_assoc]
    rfl
theorem set0 (z : Nat) : (List.replicate (1 + z) (0 : Int)).set 0 128 = 128 :: List.replicate z 0 := by rw [Nat.add_comm, List.replicate_succ]; rfl
theorem sPad (N : Nat) (hN : 70000 ≤ N) (n : Nat) (hn : n ≤ 1000000000) : sha_Pad N (n : Int) = some (padB n) := by
  have hz : zer n < 64 := Nat.mod_lt _ (by omega)
  have hlim := lim_big2
  unfold sha_Pad
  rw [wu64 (a := (n : Int) + 9) (by omega) (by omega), show (n : Int) + 9 = ((n + 9 : Nat) : Int) by omega, show (64 : Int) = ((64 : Nat) : Int) from rfl, tmod_nat]
  have h1 : (n + 9) % 64 < 64 := Nat.mod_lt _ (by omega)
  rw [wu64 (a := ((64 : Nat) : Int) - (((n + 9) % 64 : Nat) : Int)) (by omega) (by omega), show ((64 : Nat) : Int) - (((n + 9) % 64 : Nat) : Int) = ((64 - (n + 9) % 64 : Nat) : Int) by omega, tmod_nat]
  rw [show ((64 - (n + 9) % 64) % 64 : Nat) = zer n from rfl, wu64 (a := 1 + ((zer n : Nat) : Int)) (by omega) (by omega), wu64 (a := 9 + ((zer n : Nat) : Int)) (by omega) (by omega)]
  have hm : mkl 1 (0 : Int) (1 + ((zer n : Nat) : Int)) (9 + ((zer n : Nat) : Int)) = some (List.replicate (1 + zer n) 0) := by
    unfold mkl
    rw [if_pos ⟨by omega, by omega, by omega⟩, show (1 + ((zer n : Nat) : Int)).toNat = 1 + zer n by omega]
  have h0 : idx (List.replicate (1 + zer n) (0 : Int)) 0 = some 0 := by
    rw [show (0 : Int) = ((0 : Nat) : Int) from rfl, idx_nat, List.getElem?_replicate, if_pos (by omega)]
  simp only [hm, Option.bind_some, h0, Int.toNat_zero, set0]
  have := pad_loop N n 8 N (128 :: List.replicate (zer n) 0) (by omega) (by omega) (by simp; omega)
  rw [show ((8 - 8 : Nat) : Int) = 0 from rfl] at this
  rw [this]; rfl
theorem rpad_loop (N n : Nat) : ∀ (k m : Nat) (acc : List Int), k ≤ 8 → k < m → acc.length + k ≤ 1000 → ref03_Pad_L3 N (n : Int) m ((k : Int) - 1) acc = some (acc ++ (List.range' (8 - k) k).map (beG n))
  | 0, m, acc, _, hm, _ => by
    obtain ⟨m, rfl⟩ : ∃ q, m = q + 1 := ⟨m - 1, by omega⟩
    rw [ref03_Pad_L3, show decide ((0 : Int) ≤ ((0 : Nat) : Int) - 1) = false from rfl]; simp
  | k + 1, m, acc, hk, hm, ha => by
    obtain ⟨m, rfl⟩ : ∃ q, m = q + 1 := ⟨m - 1, by omega⟩
    rw [ref03_Pad_L3, show decide ((0 : Int) ≤ ((k + 1 : Nat) : Int) - 1) = true from decide_eq_true (by omega), if_pos rfl]
    rw [w64 (a := 8 * (((k + 1 : Nat) : Int) - 1)) (by omega) (by omega), show 8 * (((k + 1 : Nat) : Int) - 1) = ((56 - 8 * (8 - (k + 1)) : Nat) : Int) by omega, shr64 _ _ (by omega)]
    simp only [Option.bind_some]
    rw [appB (by simp; omega)]
    simp only [Option.bind_some]
    rw [w64 (a := ((k + 1 : Nat) : Int) - 1 - 1) (by omega) (by omega), show ((k + 1 : Nat) : Int) - 1 - 1 = (k : Int) - 1 by omega, rpad_loop N n k m _ (by omega) (by omega) (by simp; omega), List.range'_succ, List.map_cons, show 8 - (k + 1) + 1 = 8 - k by omega, List.append_assoc]
    rfl
theorem rzer_loop (N n : Nat) (hn : n ≤ 1000000000) : ∀ (z m : Nat) (l : List Int), z < 64 → z < m → l.length + z ≤ 1000 → (n + l.length + 8 + z) % 64 = 0 → ref03_Pad_L4 N (n : Int) m l = some (l ++ List.replicate z 0)
  | z, 0, l, _, hm, _, _ => by omega
  | z, m + 1, l, hz, hm, hl, he => by
    rw [ref03_Pad_L4, wu64 (a := (l.length : Int)) (by omega) (by omega), wu64 (a := (n : Int) + (l.length : Int)) (by omega) (by omega), wu64 (a := (n : Int) + (l.length : Int) + 8) (by omega) (by omega)]
    rw [show (n : Int) + (l.length : Int) + 8 = ((n + l.length + 8 : Nat) : Int) by omega, show (64 : Int) = ((64 : Nat) : Int) from rfl, tmod_nat]
    match z with
    | 0 =>
      rw [show (n + l.length + 8) % 64 = 0 by simpa using he]
      simp
    | z + 1 =>
      have hne : (n + l.length + 8) % 64 ≠ 0 := by omega
      rw [show ((((n + l.length + 8) % 64 : Nat) : Int) != 0) = true by simp; omega, if_pos rfl, appB (by simp; omega)]
      simp only [Option.bind_some]
      rw [rzer_loop N n hn z m _ (by omega) (by omega) (by simp; omega) (by simp; omega), List.replicate_succ, List.append_assoc]
      rfl
theorem rPad (N : Nat) (hN : 70000 ≤ N) (n : Nat) (hn : n ≤ 1000000000) : ref03_Pad N (n : Int) = some (padB n) := by
  have hz : zer n < 64 := Nat.mod_lt _ (by omega)
  have h2 : (n + 1 + 8 + zer n) % 64 = 0 := by unfold zer; omega
  unfold ref03_Pad
  rw [rzer_loop N n hn (zer n) N [128] hz (by omega) (by simp; omega) (by simpa using h2)]
  simp only [Option.bind_some, ref03_Pad_J1]
  have := rpad_loop N n 8 N ([128] ++ List.replicate (zer n) 0) (by omega) (by omega) (by simp; omega)
  rw [show ((8 : Nat) : Int) - 1 = 7 from rfl] at this
  rw [this]; rfl
theorem row_loop {f : Nat → Int → List Int → Option (List Int)} (l : List (List Int)) (hn : l.length ≤ 1000) (ht : l.flatten.length ≤ 50000000)
    (hs : ∀ m j acc (hj : j < l.length), acc.length + l[j].length ≤ 50000000 → f (m + 1) (j : Int) acc = f m ((j + 1 : Nat) : Int) (acc ++ l[j])) (he : ∀ m j acc, l.length ≤ j → f (m + 1) (j : Int) acc = some acc) (N : Nat) (hN : 70000 ≤ N) :
    f N 0 [] = some l.flatten := by
  have hfl : l.flatMap id = l.flatten := by simp
  have := loop_flat (f := f) (xs := l) (g := id) (B := 50000000) (by omega) hs he N 0 [] (by omega) (by omega) (by rw [List.drop_zero, hfl]; simpa using ht)
  rw [List.drop_zero, hfl] at this
  simpa using this
theorem srow (N : Nat) (hN : 70000 ≤ N) (l : List (List Int)) (hn : l.length ≤ 1000) (ht : l.flatten.length ≤ 50000000) : sha_row N l = some l.flatten := by
  have := row_loop (f := sha_row_L2 N l) l hn ht (fun m j acc hj hB => by
    rw [sha_row_L2, dT hj, if_pos rfl, idx_lt l hj, Option.bind_some, appB (by omega)]
    simp only [Option.bind_some, i1 (show j ≤ 100000 by omega)]) (fun m j acc hj => by rw [sha_row_L2, dF (by omega)]; rfl) N hN
  unfold sha_row
  rw [this]; rfl
def cmp (N : Nat) (st blk : List Int) : List Int := (sha_Compress N st blk).getD []
def blkAt (msg : List Int) (i : Nat) : List Int := (msg.drop (64 * i)).take 64
theorem byt_take {l : List Int} (h : Byt l) (k : Nat) : Byt (l.take k) := fun x hx => h x (List.mem_of_mem_take hx)
theorem byt_drop {l : List Int} (h : Byt l) (k : Nat) : Byt (l.drop k) := fun x hx => h x (List.mem_of_mem_drop hx)
theorem cmp_ok (N : Nat) (hN : 70000 ≤ N) (st blk : List Int) (hst : st.length = 8) (hb : Byt blk) (hl : blk.length = 64) : sha_Compress N st blk = some (cmp N st blk) ∧ (cmp N st blk).length = 8 ∧ ref03_Compress N st blk = some (cmp N st blk) := by
  obtain ⟨b, rfl, h2⟩ := byt_nat hb
  obtain ⟨r, h3, h4, h5⟩ := compress N hN b (by rw [iN_len] at hl; exact hl) h2 st hst
  have : cmp N st (iN b) = r := by simp [cmp, h3]
  rw [this]; exact ⟨h3, h4, h5⟩
def rounds (N : Nat) (msg st : List Int) (j k : Nat) : List Int := (List.range' j k).foldl (fun s i => cmp N s (blkAt msg i)) st
section
variable (N : Nat) (hN : 70000 ≤ N) (msg : List Int) (hb : Byt msg) (hl : msg.length ≤ 2000000)
include hN hb hl
theorem sum_loop : ∀ (m j : Nat) (st : List Int), msg.length / 64 - j < m → j ≤ msg.length / 64 → st.length = 8 → sha_Sum_L4 N msg m (j : Int) st = some (rounds N msg st j (msg.length / 64 - j)) ∧ (rounds N msg st j (msg.length / 64 - j)).length = 8
  | 0, j, st, hm, _, _ => by omega
  | m + 1, j, st, hm, hj, hst => by
    rw [sha_Sum_L4, show (64 : Int) = ((64 : Nat) : Int) from rfl, tdiv_nat, w64 (a := ((msg.length / 64 : Nat) : Int)) (by omega) (by omega)]
    by_cases h : j < msg.length / 64
    · have hlen : (blkAt msg j).length = 64 := by simp [blkAt]; omega
      obtain ⟨c1, c2, c3⟩ := cmp_ok N hN st (blkAt msg j) hst (byt_take (byt_drop hb _) _) hlen
      rw [dT h, if_pos rfl, arr_ok hst, w64 (a := ((64 : Nat) : Int) * (j : Int)) (by omega) (by omega)]
      have e1 : sub msg (((64 : Nat) : Int) * (j : Int)) (msg.length : Int) = some (msg.drop (64 * j)) := by
        unfold sub
        rw [if_pos ⟨by omega, by omega, by omega⟩, show (((64 : Nat) : Int) * (j : Int)).toNat = 64 * j by omega, Int.toNat_natCast, List.take_of_length_le (Nat.le_refl _)]
      have e2 : arp 64 (msg.drop (64 * j)) = some (blkAt msg j) := by unfold arp; rw [if_pos (by simp; omega)]; rfl
      simp only [e1, e2, c1, arr_ok c2, Option.bind_some, i1 (show j ≤ 100000 by omega)]
      obtain ⟨i1', i2'⟩ := sum_loop m (j + 1) _ (by omega) (by omega) c2
      have er : rounds N msg st j (msg.length / 64 - j) = rounds N msg (cmp N st (blkAt msg j)) (j + 1) (msg.length / 64 - (j + 1)) := by
        unfold rounds
        rw [show msg.length / 64 - j = (msg.length / 64 - (j + 1)) + 1 by omega, List.range'_succ, List.foldl_cons]
      rw [er]
      exact ⟨i1', i2'⟩
    · rw [dF h, show msg.length / 64 - j = 0 by omega]
      exact ⟨rfl, hst⟩
theorem rsum_loop : ∀ (m j : Nat) (st : List Int), msg.length / 64 - j < m → j ≤ msg.length / 64 → st.length = 8 → ref03_Sum_L4 N msg m ((64 * j : Nat) : Int) st = some (rounds N msg st j (msg.length / 64 - j))
  | 0, j, st, hm, _, _ => by omega
  | m + 1, j, st, hm, hj, hst => by
    rw [ref03_Sum_L4, w64 (a := ((64 * j : Nat) : Int) + 64) (by omega) (by omega)]
    by_cases h : j < msg.length / 64
    · have hlen : (blkAt msg j).length = 64 := by simp [blkAt]; omega
      obtain ⟨c1, c2, c3⟩ := cmp_ok N hN st (blkAt msg j) hst (byt_take (byt_drop hb _) _) hlen
      rw [show decide (((64 * j : Nat) : Int) + 64 ≤ (msg.length : Int)) = true from decide_eq_true (by omega), if_pos rfl]
      have e1 : sub msg ((64 * j : Nat) : Int) (msg.length : Int) = some (msg.drop (64 * j)) := by
        unfold sub
        rw [if_pos ⟨by omega, by omega, by omega⟩, Int.toNat_natCast, Int.toNat_natCast, List.take_of_length_le (Nat.le_refl _)]
      have e2 : cpy (List.replicate 64 (0 : Int)) (msg.drop (64 * j)) = blkAt msg j := by
        unfold cpy blkAt
        rw [List.length_replicate, show List.drop (msg.drop (64 * j)).length (List.replicate 64 (0 : Int)) = [] from List.drop_eq_nil_of_le (by simp; omega), List.append_nil]
      simp only [e1, e2, Option.bind_some, arr_ok hst, arr_ok hlen, c3, arr_ok c2]
      rw [show ((64 * j : Nat) : Int) + 64 = ((64 * (j + 1) : Nat) : Int) by omega, rsum_loop m (j + 1) _ (by omega) (by omega) c2]
      unfold rounds
      rw [show msg.length / 64 - j = (msg.length / 64 - (j + 1)) + 1 by omega, List.range'_succ, List.foldl_cons]
    · rw [show decide (((64 * j : Nat) : Int) + 64 ≤ (msg.length : Int)) = false from decide_eq_false (by omega), show msg.length / 64 - j = 0 by omega]
      rfl
end
def outG (st : List Int) (i : Nat) : Int := IntKind.u8.wrap ((st.getD (i / 4) 0).fdiv (2 ^ (24 - 8 * (i % 4))))
def outH (st : List Int) : List Int := (List.range 32).map (outG st)
theorem outH_len (st : List Int) : (outH st).length = 32 := by simp [outH]
theorem outH_byt (st : List Int) : Byt (outH st) := by
  intro x hx
  simp only [outH, List.mem_map] at hx
  obtain ⟨i, _, rfl⟩ := hx
  exact u8_byt _
theorem fill_step (g : Nat → Int) (w j : Nat) (hj : j < w) : ((List.range j).map g ++ List.replicate (w - j) 0).set j (g j) = (List.range (j + 1)).map g ++ List.replicate (w - (j + 1)) 0 := by
  rw [List.set_append_right _ _ (by simp), show w - j = (w - (j + 1)) + 1 by omega, List.replicate_succ, List.range_succ, List.map_append, List.append_assoc]
  simp
theorem shr32 (a : Int) (s : Nat) (h : s ≤ 32) : shr .u32 a (s : Int) = some (a.fdiv (2 ^ s)) := by
  unfold shr
  rw [if_neg (by omega), Int.toNat_natCast, show min s IntKind.u32.bits = s from Nat.min_eq_left h]
theorem aixD {st : List Int} (hst : st.length = 8) {i : Nat} (h : i < 8) : aix 8 st (i : Int) = some (st.getD i 0) := by
  have : i < st.length := by omega
  rw [aix_nat h this]; simp [this]
section
variable (N : Nat) (hN : 70000 ≤ N) (st : List Int) (hst : st.length = 8)
include hN hst
theorem out_loop : ∀ (m j : Nat), 32 - j < m → j ≤ 32 → sha_Sum_L3 N st m (j : Int) ((List.range j).map (outG st) ++ List.replicate (32 - j) 0) = some (outH st)
  | 0, j, hm, _ => by omega
  | m + 1, j, hm, hj => by
    rw [sha_Sum_L3]
    by_cases h : j < 32
    · rw [show decide ((j : Int) < 32) = true from decide_eq_true (by omega), if_pos rfl, show (4 : Int) = ((4 : Nat) : Int) from rfl, tdiv_nat, tmod_nat, w64 (a := ((j / 4 : Nat) : Int)) (by omega) (by omega), aixD hst (by omega)]
      rw [w64 (a := ((j % 4 : Nat) : Int) * 8) (by omega) (by omega), w64 (a := 24 - ((j % 4 : Nat) : Int) * 8) (by omega) (by omega), show 24 - ((j % 4 : Nat) : Int) * 8 = ((24 - 8 * (j % 4) : Nat) : Int) by omega]
      simp only [Option.bind_some]
      rw [shr32 _ _ (by omega), aix_nat h (by simp; omega)]
      simp only [Option.bind_some, Int.toNat_natCast, i1 (show j ≤ 100000 by omega)]
      have := fill_step (outG st) 32 j h
      rw [show IntKind.u8.wrap ((st.getD (j / 4) 0).fdiv (2 ^ (24 - 8 * (j % 4)))) = outG st j from rfl, this]
      exact out_loop m (j + 1) (by omega) (by omega)
    · obtain rfl : j = 32 := by omega
      rw [show decide (((32 : Nat) : Int) < 32) = false from rfl]
      simp [outH]
theorem rout_loop : ∀ (m j : Nat), 8 - j < m → j ≤ 8 → ref03_Sum_L3 N st m (j : Int) ((List.range (4 * j)).map (outG st) ++ List.replicate (32 - 4 * j) 0) = some (outH st)
  | 0, j, hm, _ => by omega
  | m + 1, j, hm, hj => by
    rw [ref03_Sum_L3]
    by_cases h : j < 8
    · rw [show decide ((j : Int) < 8) = true from decide_eq_true (by omega), if_pos rfl, aixD hst h]
      rw [w64 (a := 4 * (j : Int)) (by omega) (by omega), w64 (a := 4 * (j : Int) + 1) (by omega) (by omega), w64 (a := 4 * (j : Int) + 2) (by omega) (by omega), w64 (a := 4 * (j : Int) + 3) (by omega) (by omega)]
      rw [show 4 * (j : Int) = ((4 * j : Nat) : Int) by omega, show ((4 * j : Nat) : Int) + 1 = ((4 * j + 1 : Nat) : Int) by omega, show ((4 * j : Nat) : Int) + 2 = ((4 * j + 2 : Nat) : Int) by omega, show ((4 * j : Nat) : Int) + 3 = ((4 * j + 3 : Nat) : Int) by omega]
      rw [show (24 : Int) = ((24 : Nat) : Int) from rfl, show (16 : Int) = ((16 : Nat) : Int) from rfl]
      simp only [Option.bind_some, Int.toNat_natCast, i1 (show j ≤ 100000 by omega)]
      rw [show (8 : Int) = ((8 : Nat) : Int) from rfl, shr32 _ 24 (by omega), shr32 _ 16 (by omega), shr32 _ 8 (by omega)]
      simp only [Option.bind_some]
      have o0 : IntKind.u8.wrap ((st.getD j 0).fdiv (2 ^ 24)) = outG st (4 * j) := by unfold outG; rw [show 4 * j / 4 = j by omega, show 4 * j % 4 = 0 by omega]
      have o1 : IntKind.u8.wrap ((st.getD j 0).fdiv (2 ^ 16)) = outG st (4 * j + 1) := by unfold outG; rw [show (4 * j + 1) / 4 = j by omega, show (4 * j + 1) % 4 = 1 by omega]
      have o2 : IntKind.u8.wrap ((st.getD j 0).fdiv (2 ^ 8)) = outG st (4 * j + 2) := by unfold outG; rw [show (4 * j + 2) / 4 = j by omega, show (4 * j + 2) % 4 = 2 by omega]
      have o3 : IntKind.u8.wrap (st.getD j 0) = outG st (4 * j + 3) := by
        unfold outG; rw [show (4 * j + 3) / 4 = j by omega, show (4 * j + 3) % 4 = 3 by omega]
        congr 1
        generalize st.getD j 0 = x
        simp
      rw [o0, o1, o2, o3, fill_step (outG st) 32 (4 * j) (by omega), fill_step (outG st) 32 (4 * j + 1) (by omega), fill_step (outG st) 32 (4 * j + 2) (by omega), fill_step (outG st) 32 (4 * j + 3) (by omega)]
      rw [aix_nat (show 4 * j < 32 by omega) (by simp; omega), aix_nat (show 4 * j + 1 < 32 by omega) (by simp; omega), aix_nat (show 4 * j + 2 < 32 by omega) (by simp; omega), aix_nat (show 4 * j + 3 < 32 by omega) (by simp; omega)]
      simp only [Option.bind_some]
      exact rout_loop m (j + 1) (by omega) (by omega)
    · obtain rfl : j = 8 := by omega
      rw [show decide (((8 : Nat) : Int) < 8) = false from rfl]
      simp [outH]
end
def sha256 (N : Nat) (b : List Int) : List Int := outH (rounds N (b ++ padB b.length) shaI 0 ((b ++ padB b.length).length / 64))
theorem sha256_len (N : Nat) (b : List Int) : (sha256 N b).length = 32 := outH_len _
theorem sha256_byt (N : Nat) (b : List Int) : Byt (sha256 N b) := outH_byt _
theorem Sum_eq (N : Nat) (hN : 70000 ≤ N) (b : List Int) (hb : Byt b) (hl : b.length ≤ 1000000) : sha_Sum N b = some (sha256 N b) ∧ ref03_Sum N b = some (sha256 N b) := by
  have hz : zer b.length < 64 := Nat.mod_lt _ (by omega)
  have hpl := padB_len b.length
  have hmb : Byt (b ++ padB b.length) := hb.append (padB_byt _)
  have hml : (b ++ padB b.length).length ≤ 2000000 := by rw [List.length_append]; omega
  obtain ⟨s1, s2⟩ := sum_loop N hN _ hmb hml N 0 shaI (by omega) (by omega) rfl
  have s3 := rsum_loop N hN _ hmb hml N 0 shaI (by omega) (by omega) rfl
  rw [show ((0 : Nat) : Int) = 0 from rfl, Nat.sub_zero] at s1
  rw [Nat.sub_zero] at s2
  rw [show ((64 * 0 : Nat) : Int) = 0 from rfl, Nat.sub_zero] at s3
  have hw : IntKind.u64.wrap (b.length : Int) = (b.length : Int) := wu64 (by omega) (by omega)
  constructor
  · have o := out_loop N hN (rounds N (b ++ padB b.length) shaI 0 ((b ++ padB b.length).length / 64)) s2 N 0 (by omega) (by omega)
    simp only [List.range_zero, List.map_nil, List.nil_append, Nat.sub_zero] at o
    rw [show ((0 : Nat) : Int) = 0 from rfl] at o
    simp only [sha_Sum, hw, sPad N hN b.length (by omega), Option.bind_some]
    rw [srow N hN [b, padB b.length] (by simp) (by simp; omega)]
    simp only [Option.bind_some, List.flatten_cons, List.flatten_nil, List.append_nil, s1, sha_Sum_J1, o, sha_Sum_J2, arr_ok (outH_len _)]
    rfl
  · have o := rout_loop N hN (rounds N (b ++ padB b.length) shaI 0 ((b ++ padB b.length).length / 64)) s2 N 0 (by omega) (by omega)
    simp only [Nat.mul_zero, List.range_zero, List.map_nil, List.nil_append, Nat.sub_zero] at o
    rw [show ((0 : Nat) : Int) = 0 from rfl] at o
    have hI : ref03_Initial N = some shaI := rfl
    have hIa : arr 8 shaI = some shaI := rfl
    simp only [ref03_Sum]
    rw [appB (by simp; omega)]
    simp only [Option.bind_some, List.nil_append, hw, rPad N hN b.length (by omega)]
    rw [appB (by omega)]
    simp only [Option.bind_some, hI, hIa, s3, ref03_Sum_J1, arr_ok s2, o, ref03_Sum_J2, arr_ok (outH_len _)]
    rfl
end Go.Proofs.YtnoofjkaeidagaaDoor
set_option linter.unusedSimpArgs false
set_option linter.unusedVariables false
set_option linter.unusedSectionVars false
set_option maxRecDepth 4000
namespace Go.Proofs.YtnoofjkaeidagaaDoor
open Go Go.Vm
theorem bytesOf_byt (s : ByteArray) : Byt (bytesOf s) := by
  intro x hx
  unfold bytesOf at hx
  simp only [List.mem_map] at hx
  obtain ⟨b, _, rfl⟩ := hx
  have := b.toNat_lt
  omega
def tagged (N : Nat) (tag : ByteArray) (b : List Int) : List Int := sha256 N (sha256 N (bytesOf tag) ++ (sha256 N (bytesOf tag) ++ b))
theorem tagged_len (N : Nat) (tag : ByteArray) (b : List Int) : (tagged N tag b).length = 32 := sha256_len _ _
theorem tagged_byt (N : Nat) (tag : ByteArray) (b : List Int) : Byt (tagged N tag b) := sha256_byt _ _
theorem Tagged_eq (N : Nat) (hN : 70000 ≤ N) (tag : ByteArray) (ht : tag.size ≤ 1000) (b : List Int) (hb : Byt b) (hl : b.length ≤ 900000) : sha_Tagged N tag b = some (tagged N tag b) ∧ ref03_Tagged N tag b = some (tagged N tag b) := by
  have hlim := lim_big2
  have hs : stb tag = some (bytesOf tag) := by unfold stb; rw [if_pos (by omega)]
  obtain ⟨s1, s2⟩ := Sum_eq N hN (bytesOf tag) (bytesOf_byt tag) (by rw [bytesOf_len]; omega)
  have l1 := sha256_len N (bytesOf tag)
  obtain ⟨t1, t2⟩ := Sum_eq N hN (sha256 N (bytesOf tag) ++ (sha256 N (bytesOf tag) ++ b)) ((sha256_byt _ _).append ((sha256_byt _ _).append hb)) (by simp only [List.length_append, l1]; omega)
  constructor
  · simp only [sha_Tagged, hs, s1, Option.bind_some, arr_ok l1]
    rw [srow N hN _ (by simp) (by simp [l1]; omega)]
    simp only [Option.bind_some, List.flatten_cons, List.flatten_nil, List.append_nil, t1, arr_ok (sha256_len N _)]
    rfl
  · simp only [ref03_Tagged, hs, s2, Option.bind_some, arr_ok l1]
    rw [appB (by simp [l1])]
    simp only [Option.bind_some, List.nil_append]
    rw [appB (by simp [l1])]
    simp only [Option.bind_some]
    rw [appB (by simp [l1]; omega)]
    simp only [Option.bind_some, List.append_assoc, t2, arr_ok (sha256_len N _), ref03_Tagged_J1]
    rfl
theorem lowB_byt (w : Nat) (v : Int) : Byt (lowB w v) := by
  intro x hx
  simp only [lowB, List.mem_map] at hx
  obtain ⟨i, _, rfl⟩ := hx
  exact u8_byt _
theorem szB_byt (n : Nat) : Byt (szB n) := by
  unfold szB
  split
  · exact lowB_byt _ _
  · split
    · intro x hx
      rcases List.mem_cons.1 hx with rfl | hx
      · omega
      · exact lowB_byt _ _ x hx
    · intro x hx
      rcases List.mem_cons.1 hx with rfl | hx
      · omega
      · exact lowB_byt _ _ x hx
theorem byt_flat {α : Type} {g : α → List Int} {l : List α} (h : ∀ x ∈ l, Byt (g x)) : Byt (l.flatMap g) := by
  intro y hy
  obtain ⟨x, hx, hy⟩ := List.mem_flatMap.1 hy
  exact h x hx y hy
def ptB (x : S_api_Input) : List Int := x.Prev.Tx ++ u32B x.Prev.Index
def sqB (x : S_api_Input) : List Int := u32B x.Sequence
structure Byts (ins : List S_api_Input) (outs : List S_api_Output) : Prop where
  tx : ∀ x ∈ ins, Byt x.Prev.Tx
  scr : ∀ o ∈ outs, Byt o.Script
theorem outB_byt {o : S_api_Output} (h : Byt o.Script) : Byt (outB o) := (lowB_byt _ _).append ((szB_byt _).append h)
section
variable (N : Nat) (hN : 70000 ≤ N)
include hN
theorem number_eq (v : Int) : spend_number N v = some (u32B v) := by
  simp only [spend_number, aU32 N hN [] v (by simp), Option.bind_some, List.nil_append]
theorem prow (l : List (List Int)) (hn : l.length ≤ 1000) (ht : l.flatten.length ≤ 50000000) : spend_row N l = some l.flatten := by
  have := row_loop (f := spend_row_L2 N l) l hn ht (fun m j acc hj hB => by
    rw [spend_row_L2, dT hj, if_pos rfl, idx_lt l hj, Option.bind_some, appB (by omega)]
    simp only [Option.bind_some, i1 (show j ≤ 100000 by omega)]) (fun m j acc hj => by rw [spend_row_L2, dF (by omega)]; rfl) N hN
  unfold spend_row
  rw [this]; rfl
theorem output_eq (o : S_api_Output) (h : o.Script.length ≤ 600) : spend_output N o.Value o.Script = some (outB o) := by
  have := szB_len o.Script.length
  simp only [spend_output, aU64 N hN [] _ (show ([] : List Int).length ≤ 40000000 by simp), aBytes N hN [] _ (show o.Script.length ≤ 1000000 by omega) (by simp), Option.bind_some, List.nil_append]
  rw [prow N hN _ (by simp) (by simp [u64B_len]; omega)]
  simp only [Option.bind_some, List.flatten_cons, List.flatten_nil, List.append_nil, outB]
theorem digest_eq (b : List Int) (hb : Byt b) (hl : b.length ≤ 1000000) : spend_digest N b = some (sha256 N b) := by
  simp only [spend_digest, (Sum_eq N hN b hb hl).1, Option.bind_some, arr_ok (sha256_len N b)]
variable {v : Int} {ins : List S_api_Input} {outs : List S_api_Output} {lock : Int} (K : Kept ins outs)
include K
theorem fits2_eq : spend_fits N v ins outs lock = some (fitB v ins outs lock) := by
  simp only [spend_fits, tx_Encode, fits_eq N hN K, Option.bind_some]
  cases fitB v ins outs lock
  · rfl
  · simp only [Bool.not_true, Bool.false_eq_true, if_false, encode_eq N hN K, Option.bind_some]; rfl
variable {i oV : Int} {oS : List Int}
theorem mL6 : ∀ (m j : Nat) (a b : List Int), ins.length - j < m → j ≤ ins.length → a.length ≤ 36 * j → b.length ≤ 4 * j → spend_Message_L6 N v ins outs lock i oV oS m (j : Int) a b = some (a ++ (ins.drop j).flatMap ptB, b ++ (ins.drop j).flatMap sqB)
  | 0, j, a, b, hm, _, _, _ => by omega
  | m + 1, j, a, b, hm, hj, ha, hb => by
    have hn := K.ni
    rw [spend_Message_L6]
    by_cases h : j < ins.length
    · have ht := K.tx _ (List.getElem_mem h)
      rw [dT h, if_pos rfl, idx_lt ins h]
      simp only [Option.bind_some, aPoint N hN _ _ ht, number_eq N hN]
      rw [appB (by simp only [List.length_append, u32B_len]; omega)]
      simp only [Option.bind_some]
      rw [appB (by rw [u32B_len]; omega)]
      simp only [Option.bind_some, i1 (show j ≤ 100000 by omega)]
      rw [mL6 m (j + 1) _ _ (by omega) (by omega) (by simp only [List.length_append, u32B_len]; omega) (by simp only [List.length_append, u32B_len]; omega), List.drop_eq_getElem_cons h, List.flatMap_cons, List.flatMap_cons]
      simp only [ptB, sqB, List.append_assoc]
    · rw [dF h, List.drop_eq_nil_of_le (by omega)]; simp
theorem mL5 (p q : List Int) : spend_Message_L5 N v ins outs lock i oV oS p q N 0 [] = some (outs.flatMap outB) := by
  have hn := K.no
  have hl := outsB_le K
  have := loop_flat (f := spend_Message_L5 N v ins outs lock i oV oS p q) (xs := outs) (g := outB) (B := 200000) (by omega) (fun m j acc hj hB => by
    have ht := K.scr _ (List.getElem_mem hj)
    rw [spend_Message_L5, dT hj, if_pos rfl, idx_lt outs hj]
    simp only [Option.bind_some, output_eq N hN _ ht]
    rw [appB (by omega)]
    simp only [Option.bind_some, i1 (show j ≤ 100000 by omega)]) (fun m j acc hj => by rw [spend_Message_L5, dF (by omega)]; rfl) N 0 [] (by omega) (by omega) (by rw [List.drop_zero, List.length_nil]; omega)
  simpa using this
def msgP (N : Nat) (v : Int) (ins : List S_api_Input) (outs : List S_api_Output) (lock i oV : Int) (oS : List Int) : List Int :=
  u32B v ++ (sha256 N (ins.flatMap ptB) ++ (sha256 N (ins.flatMap sqB) ++ (sha256 N (outs.flatMap outB) ++ (u32B lock ++ (u32B (IntKind.u32.wrap i) ++ outB ⟨oV, oS⟩)))))
def tagS : ByteArray := ⟨#[108, 105, 103, 104, 116, 99, 108, 105, 101, 110, 116, 47, 115, 112, 101, 110, 100]⟩
def zero32 : List Int := [0, 0, 0, 0, 0, 0, 0, 0, 0, 0, 0, 0, 0, 0, 0, 0, 0, 0, 0, 0, 0, 0, 0, 0, 0, 0, 0, 0, 0, 0, 0, 0]
def mess (N : Nat) (v : Int) (ins : List S_api_Input) (outs : List S_api_Output) (lock i oV : Int) (oS : List Int) : List Int × Int :=
  if fitB v ins outs lock && !decide (oV < 0) && !decide (520 < oS.length) then
    if decide (i < 0) || decide ((ins.length : Int) ≤ i) then (zero32, 5) else (tagged N tagS (msgP N v ins outs lock i oV oS), 0)
  else (zero32, 4)
omit hN K in
theorem mess_len : (mess N v ins outs lock i oV oS).1.length = 32 := by
  unfold mess
  split
  · split
    · rfl
    · exact tagged_len _ _ _
  · rfl
variable (B : Byts ins outs)
include B
omit hN in
theorem parts_ok : Byt (ins.flatMap ptB) ∧ (ins.flatMap ptB).length ≤ 2520 ∧ Byt (ins.flatMap sqB) ∧ (ins.flatMap sqB).length ≤ 280 ∧ Byt (outs.flatMap outB) ∧ (outs.flatMap outB).length ≤ 42910 := by
  have h1 := flat_le (g := ptB) (c := 36) ins (fun x hx => by simp [ptB, u32B_len, K.tx x hx])
  have h2 := flat_le (g := sqB) (c := 4) ins (fun x hx => by simp [sqB, u32B_len])
  have hn := K.ni
  have := Nat.mul_le_mul_right 36 hn
  have := Nat.mul_le_mul_right 4 hn
  exact ⟨byt_flat fun x hx => (B.tx x hx).append (lowB_byt _ _), by omega, byt_flat fun x hx => lowB_byt _ _, by omega, byt_flat fun o ho => outB_byt (B.scr o ho), outsB_le K⟩
theorem msgP_ok (hoS : oS.length ≤ 520) (hob : Byt oS) : Byt (msgP N v ins outs lock i oV oS) ∧ (msgP N v ins outs lock i oV oS).length ≤ 900000 := by
  have h2 := outB_le (o := ⟨oV, oS⟩) (show oS.length ≤ 600 by omega)
  refine ⟨(lowB_byt _ _).append ((sha256_byt _ _).append ((sha256_byt _ _).append ((sha256_byt _ _).append ((lowB_byt _ _).append ((lowB_byt _ _).append (outB_byt hob)))))), ?_⟩
  simp only [msgP, List.length_append, u32B_len, sha256_len]
  omega
theorem message_eq (hob : Byt oS) : spend_Message N v ins outs lock i oV oS = some (mess N v ins outs lock i oV oS) := by
  obtain ⟨p1, p2, p3, p4, p5, p6⟩ := parts_ok K B
  unfold spend_Message mess
  rw [fits2_eq N hN K]
  cases hf : fitB v ins outs lock with
  | false => rfl
  | true =>
    simp only [Option.bind_some, Bool.not_true, Bool.false_eq_true, if_false, Bool.true_and]
    cases h0 : decide (oV < 0) with
    | true => rfl
    | false =>
      simp only [Bool.false_eq_true, if_false, Bool.not_false, Bool.true_and]
      rw [show (520 : Int) = ((520 : Nat) : Int) from rfl, nle, show decide (520 < oS.length) = !decide (oS.length ≤ 520) by rw [← nle]; congr 1; simp; omega]
      cases h1 : decide (oS.length ≤ 520) with
      | false => rfl
      | true =>
        have hoS : oS.length ≤ 520 := by simpa using h1
        obtain ⟨q1, q2⟩ := msgP_ok N hN K B (v := v) (lock := lock) (i := i) (oV := oV) hoS hob
        simp only [Bool.not_true, Bool.not_false, if_true, spend_Message_J1, Bool.false_eq_true, if_false]
        have main : spend_Message_J2 N v ins outs lock i oV oS false = some (tagged N tagS (msgP N v ins outs lock i oV oS), 0) := by
          have e6 := mL6 N hN K (v := v) (lock := lock) (i := i) (oV := oV) (oS := oS) N 0 [] [] (by have := K.ni; omega) (by omega) (by simp) (by simp)
          rw [show ((0 : Nat) : Int) = 0 from rfl, List.drop_zero, List.nil_append, List.nil_append] at e6
          have e7 : spend_row N [u32B v, sha256 N (ins.flatMap ptB), sha256 N (ins.flatMap sqB), sha256 N (outs.flatMap outB), u32B lock, u32B (IntKind.u32.wrap i), outB ⟨oV, oS⟩] = some (msgP N v ins outs lock i oV oS) := by
            have h2 := outB_le (o := ⟨oV, oS⟩) (show oS.length ≤ 600 by omega)
            rw [prow N hN _ (by simp) (by simp [u32B_len, sha256_len]; omega)]
            simp only [List.flatten_cons, List.flatten_nil, List.append_nil, msgP]
          have e8 := (Tagged_eq N hN tagS (by decide) _ q1 q2).1
          simp only [spend_Message_J2, Bool.false_eq_true, if_false, e6, Option.bind_some, spend_Message_J3, mL5 N hN K, spend_Message_J4, number_eq N hN, digest_eq N hN _ p1 (by omega), digest_eq N hN _ p3 (by omega), digest_eq N hN _ p5 (by omega), output_eq N hN ⟨oV, oS⟩ (show oS.length ≤ 600 by omega), e7]
          rw [show (⟨#[108, 105, 103, 104, 116, 99, 108, 105, 101, 110, 116, 47, 115, 112, 101, 110, 100]⟩ : ByteArray) = tagS from rfl, e8]
          simp only [Option.bind_some, arr_ok (tagged_len N _ _)]
        cases hi : decide (i < 0) with
        | true => rfl
        | false =>
          simp only [Bool.false_eq_true, if_false, Bool.false_or]
          cases hi2 : decide ((ins.length : Int) ≤ i) with
          | true => rfl
          | false => simp only [Bool.false_eq_true, if_false, main]
end
end Go.Proofs.YtnoofjkaeidagaaDoor
set_option linter.unusedSimpArgs false
set_option linter.unusedVariables false
set_option linter.unusedSectionVars false
set_option maxRecDepth 4000
namespace Go.Proofs.YtnoofjkaeidagaaDoor
open Go Go.Vm
section
variable (N : Nat) (hN : 70000 ≤ N) {v : Int} {ins : List S_api_Input} {outs : List S_api_Output} {lock : Int} (K : Kept ins outs) {i oV : Int} {oS : List Int}
include hN K
theorem rmL6 : ∀ (m j : Nat) (a b : List Int), ins.length - j < m → j ≤ ins.length → a.length ≤ 36 * j → b.length ≤ 4 * j → ref10_Message_L6 N v ins outs lock i oV oS m (j : Int) a b = some (a ++ (ins.drop j).flatMap ptB, b ++ (ins.drop j).flatMap sqB)
  | 0, j, a, b, hm, _, _, _ => by omega
  | m + 1, j, a, b, hm, hj, ha, hb => by
    have hn := K.ni
    rw [ref10_Message_L6]
    by_cases h : j < ins.length
    · have ht := K.tx _ (List.getElem_mem h)
      rw [dT h, if_pos rfl, idx_lt ins h]
      simp only [Option.bind_some, rPoint N hN _ _ ht]
      rw [appB (by simp only [List.length_append, u32B_len]; omega)]
      simp only [Option.bind_some]
      rw [rU32 N hN _ _ (by omega)]
      simp only [Option.bind_some, i1 (show j ≤ 100000 by omega)]
      rw [rmL6 m (j + 1) _ _ (by omega) (by omega) (by simp only [List.length_append, u32B_len]; omega) (by simp only [List.length_append, u32B_len]; omega), List.drop_eq_getElem_cons h, List.flatMap_cons, List.flatMap_cons]
      simp only [ptB, sqB, List.append_assoc]
    · rw [dF h, List.drop_eq_nil_of_le (by omega)]; simp
theorem rmL5 (p q : List Int) : ref10_Message_L5 N v ins outs lock i oV oS p q N 0 [] = some (outs.flatMap outB) := by
  have hn := K.no
  have hl := outsB_le K
  have := loop_flat (f := ref10_Message_L5 N v ins outs lock i oV oS p q) (xs := outs) (g := outB) (B := 200000) (by omega) (fun m j acc hj hB => by
    have ht := K.scr _ (List.getElem_mem hj)
    rw [ref10_Message_L5, dT hj, if_pos rfl, idx_lt outs hj]
    simp only [Option.bind_some, rOut N hN _ ht]
    rw [appB (by omega)]
    simp only [Option.bind_some, i1 (show j ≤ 100000 by omega)]) (fun m j acc hj => by rw [ref10_Message_L5, dF (by omega)]; rfl) N 0 [] (by omega) (by omega) (by rw [List.drop_zero, List.length_nil]; omega)
  simpa using this
theorem rHash (b h : List Int) (hh : h.length = 32) (hb : b.length ≤ 30000000) : ref01_AppendHash N b h = some (b ++ h) := by
  simp only [ref01_AppendHash, arr_ok hh, Option.bind_some]
  rw [joined_eq N _ _ (by omega)]; rfl
variable (B : Byts ins outs)
include B
theorem rmessage_eq (hob : Byt oS) : ref10_Message N v ins outs lock i oV oS = some (mess N v ins outs lock i oV oS) := by
  obtain ⟨p1, p2, p3, p4, p5, p6⟩ := parts_ok K B
  unfold ref10_Message mess
  rw [rfits_eq N hN K]
  cases hf : fitB v ins outs lock with
  | false => rfl
  | true =>
    simp only [Option.bind_some, Bool.not_true, Bool.false_eq_true, if_false, Bool.true_and]
    cases h0 : decide (oV < 0) with
    | true => rfl
    | false =>
      simp only [Bool.false_eq_true, if_false, Bool.not_false, Bool.true_and]
      rw [show (520 : Int) = ((520 : Nat) : Int) from rfl, nle, show decide (520 < oS.length) = !decide (oS.length ≤ 520) by rw [← nle]; congr 1; simp; omega]
      cases h1 : decide (oS.length ≤ 520) with
      | false => rfl
      | true =>
        have hoS : oS.length ≤ 520 := by simpa using h1
        obtain ⟨q1, q2⟩ := msgP_ok N hN K B (v := v) (lock := lock) (i := i) (oV := oV) hoS hob
        simp only [Bool.not_true, Bool.not_false, if_true, ref10_Message_J1, Bool.false_eq_true, if_false]
        have main : ref10_Message_J2 N v ins outs lock i oV oS false = some (tagged N tagS (msgP N v ins outs lock i oV oS), 0) := by
          have e6 := rmL6 N hN K (v := v) (lock := lock) (i := i) (oV := oV) (oS := oS) N 0 [] [] (by have := K.ni; omega) (by omega) (by simp) (by simp)
          rw [show ((0 : Nat) : Int) = 0 from rfl, List.drop_zero, List.nil_append, List.nil_append] at e6
          have e8 := (Tagged_eq N hN tagS (by decide) _ q1 q2).2
          have h2 := outB_le (o := ⟨oV, oS⟩) (show oS.length ≤ 600 by omega)
          simp only [ref10_Message_J2, Bool.false_eq_true, if_false, e6, Option.bind_some, ref10_Message_J3, rmL5 N hN K, ref10_Message_J4, rU32 N hN [] _ (show ([] : List Int).length ≤ 40000000 by simp), List.nil_append, (Sum_eq N hN _ p1 (by omega)).2, (Sum_eq N hN _ p3 (by omega)).2, (Sum_eq N hN _ p5 (by omega)).2, rOut N hN ⟨oV, oS⟩ (show oS.length ≤ 600 by omega)]
          rw [rHash N hN K _ _ (sha256_len _ _) (by rw [u32B_len]; omega)]
          simp only [Option.bind_some]
          rw [rHash N hN K _ _ (sha256_len _ _) (by simp [u32B_len, sha256_len])]
          simp only [Option.bind_some]
          rw [rHash N hN K _ _ (sha256_len _ _) (by simp [u32B_len, sha256_len])]
          simp only [Option.bind_some]
          rw [rU32 N hN _ lock (by simp [u32B_len, sha256_len])]
          simp only [Option.bind_some]
          rw [rU32 N hN _ _ (by simp [u32B_len, sha256_len])]
          simp only [Option.bind_some]
          rw [appB (by simp [u32B_len, sha256_len]; omega)]
          simp only [Option.bind_some, List.append_assoc]
          rw [show (⟨#[108, 105, 103, 104, 116, 99, 108, 105, 101, 110, 116, 47, 115, 112, 101, 110, 100]⟩ : ByteArray) = tagS from rfl]
          rw [show u32B v ++ (sha256 N (ins.flatMap ptB) ++ (sha256 N (ins.flatMap sqB) ++ (sha256 N (outs.flatMap outB) ++ (u32B lock ++ (u32B (IntKind.u32.wrap i) ++ outB ⟨oV, oS⟩))))) = msgP N v ins outs lock i oV oS from rfl, e8]
          simp only [Option.bind_some, arr_ok (tagged_len N _ _)]
        cases hi : decide (i < 0) with
        | true => rfl
        | false =>
          simp only [Bool.false_eq_true, if_false, Bool.false_or]
          cases hi2 : decide ((ins.length : Int) ≤ i) with
          | true => rfl
          | false => simp only [Bool.false_eq_true, if_false, main]
end
end Go.Proofs.YtnoofjkaeidagaaDoor
set_option linter.unusedSimpArgs false
set_option linter.unusedVariables false
set_option maxRecDepth 4000
namespace Go.Proofs.YtnoofjkaeidagaaDoor
open Go Go.Vm
def NN : Nat := 70000
theorem sane_eq : law10_sane NN = some true := by decide +kernel
theorem SpendMessages_true (v : Int) (ins : List S_api_Input) (outs : List S_api_Output) (lock i oV : Int) (oS : List Int) (ht : ∀ x ∈ ins, x.Prev.Tx.length = 32) (B : Byts ins outs) (hob : Byt oS) : law10_SpendMessages NN v ins outs lock i oV oS = some true := by
  unfold law10_SpendMessages
  rw [sane_eq]
  simp only [Option.bind_some, Bool.not_true, Bool.false_eq_true, if_false, keepTx_eq NN (Nat.le_refl _)]
  cases hk : keptB ins outs with
  | false => rfl
  | true =>
    simp only [Bool.not_true, Bool.false_eq_true, if_false, law10_SpendMessages_J1]
    cases hc : decide ((600 : Int) < (oS.length : Int)) with
    | true => rfl
    | false =>
      simp only [Bool.false_eq_true, if_false, message_eq NN (Nat.le_refl _) (kept_of hk ht) B hob, rmessage_eq NN (Nat.le_refl _) (kept_of hk ht) B hob, Option.bind_some, arr_ok (mess_len NN), beq_self_eq_true, if_true, law10_SpendMessages_J2]
end Go.Proofs.YtnoofjkaeidagaaDoor
namespace Go.Proofs.YtnoofjkaeidagaaDoor
open Go Go.Vm
theorem mixed : Tryd.prog.follows .mixedOrders = true := by kernel_rfl
theorem dep : 2 ≤ Tryd.prog.depth := Nat.le_of_ble_eq_true (by kernel_rfl)
noncomputable def E0 : Env Tryd.prog := Env.zero mixed
theorem fap26_0 (b off : Nat) : fieldAtV Tryd.prog 26 (.ptr b off) 0 = some (.ptr b (off + 0)) := by simp [fieldAtV, ti26, ti22]
theorem fae26_0 (es : List V) (i off : Nat) : fieldAtV Tryd.prog 26 (.eptr es i off) 0 = some (.eptr es i (off + 0)) := by simp [fieldAtV, ti26, ti22]
theorem fap26_1 (b off : Nat) : fieldAtV Tryd.prog 26 (.ptr b off) 1 = some (.ptr b (off + 1)) := by simp [fieldAtV, ti26, ti23]
theorem fae26_1 (es : List V) (i off : Nat) : fieldAtV Tryd.prog 26 (.eptr es i off) 1 = some (.eptr es i (off + 1)) := by simp [fieldAtV, ti26, ti23]
theorem fap26_2 (b off : Nat) : fieldAtV Tryd.prog 26 (.ptr b off) 2 = some (.ptr b (off + 2)) := by simp [fieldAtV, ti26, ti24]
theorem fae26_2 (es : List V) (i off : Nat) : fieldAtV Tryd.prog 26 (.eptr es i off) 2 = some (.eptr es i (off + 2)) := by simp [fieldAtV, ti26, ti24]
theorem fap26_3 (b off : Nat) : fieldAtV Tryd.prog 26 (.ptr b off) 3 = some (.ptr b (off + 3)) := by simp [fieldAtV, ti26, ti22]
theorem fae26_3 (es : List V) (i off : Nat) : fieldAtV Tryd.prog 26 (.eptr es i off) 3 = some (.eptr es i (off + 3)) := by simp [fieldAtV, ti26, ti22]
theorem fap29_0 (b off : Nat) : fieldAtV Tryd.prog 29 (.ptr b off) 0 = some (.ptr b (off + 0)) := by simp [fieldAtV, ti29, ti2]
theorem fae29_0 (es : List V) (i off : Nat) : fieldAtV Tryd.prog 29 (.eptr es i off) 0 = some (.eptr es i (off + 0)) := by simp [fieldAtV, ti29, ti2]
theorem fap29_1 (b off : Nat) : fieldAtV Tryd.prog 29 (.ptr b off) 1 = some (.ptr b (off + 1)) := by simp [fieldAtV, ti29, ti27]
theorem fae29_1 (es : List V) (i off : Nat) : fieldAtV Tryd.prog 29 (.eptr es i off) 1 = some (.eptr es i (off + 1)) := by simp [fieldAtV, ti29, ti27]
theorem fap39_0 (b off : Nat) : fieldAtV Tryd.prog 39 (.ptr b off) 0 = some (.ptr b (off + 0)) := by simp [fieldAtV, ti39, ti33]
theorem fae39_0 (es : List V) (i off : Nat) : fieldAtV Tryd.prog 39 (.eptr es i off) 0 = some (.eptr es i (off + 0)) := by simp [fieldAtV, ti39, ti33]
theorem fap39_1 (b off : Nat) : fieldAtV Tryd.prog 39 (.ptr b off) 1 = some (.ptr b (off + 32)) := by simp [fieldAtV, ti39, ti22]
theorem fae39_1 (es : List V) (i off : Nat) : fieldAtV Tryd.prog 39 (.eptr es i off) 1 = some (.eptr es i (off + 32)) := by simp [fieldAtV, ti39, ti22]
theorem fap42_0 (b off : Nat) : fieldAtV Tryd.prog 42 (.ptr b off) 0 = some (.ptr b (off + 0)) := by simp [fieldAtV, ti42, ti39]
theorem fae42_0 (es : List V) (i off : Nat) : fieldAtV Tryd.prog 42 (.eptr es i off) 0 = some (.eptr es i (off + 0)) := by simp [fieldAtV, ti42, ti39]
theorem fap42_1 (b off : Nat) : fieldAtV Tryd.prog 42 (.ptr b off) 1 = some (.ptr b (off + 33)) := by simp [fieldAtV, ti42, ti22]
theorem fae42_1 (es : List V) (i off : Nat) : fieldAtV Tryd.prog 42 (.eptr es i off) 1 = some (.eptr es i (off + 33)) := by simp [fieldAtV, ti42, ti22]
theorem fap42_2 (b off : Nat) : fieldAtV Tryd.prog 42 (.ptr b off) 2 = some (.ptr b (off + 34)) := by simp [fieldAtV, ti42, ti40]
theorem fae42_2 (es : List V) (i off : Nat) : fieldAtV Tryd.prog 42 (.eptr es i off) 2 = some (.eptr es i (off + 34)) := by simp [fieldAtV, ti42, ti40]
theorem fap45_0 (b off : Nat) : fieldAtV Tryd.prog 45 (.ptr b off) 0 = some (.ptr b (off + 0)) := by simp [fieldAtV, ti45, ti39]
theorem fae45_0 (es : List V) (i off : Nat) : fieldAtV Tryd.prog 45 (.eptr es i off) 0 = some (.eptr es i (off + 0)) := by simp [fieldAtV, ti45, ti39]
theorem fap45_1 (b off : Nat) : fieldAtV Tryd.prog 45 (.ptr b off) 1 = some (.ptr b (off + 33)) := by simp [fieldAtV, ti45, ti29]
theorem fae45_1 (es : List V) (i off : Nat) : fieldAtV Tryd.prog 45 (.eptr es i off) 1 = some (.eptr es i (off + 33)) := by simp [fieldAtV, ti45, ti29]
theorem pl26 : placesOf Tryd.prog 26 = some #[(0, 1), (1, 1), (2, 1), (3, 1)] := by kernel_rfl
theorem pl29 : placesOf Tryd.prog 29 = some #[(0, 1), (1, 1)] := by kernel_rfl
theorem pl39 : placesOf Tryd.prog 39 = some #[(0, 32), (32, 1)] := by kernel_rfl
theorem pl42 : placesOf Tryd.prog 42 = some #[(0, 33), (33, 1), (34, 1)] := by kernel_rfl
theorem pl45 : placesOf Tryd.prog 45 = some #[(0, 33), (33, 2), (35, 1), (36, 1)] := by kernel_rfl
theorem ft39 : flatTy Tryd.prog 9 39 = some ((List.replicate 32 ([.int .u8])).flatten ++ [.int .u32]) := by kernel_rfl
theorem eg39 : Tryd.prog.eqGuardType Tryd.prog.depth 39 = false := by kernel_rfl
noncomputable def mt_76 : MT := (mapTy Tryd.prog 76).getD default
theorem mt76 : mapTy Tryd.prog 76 = some mt_76 := by kernel_rfl
theorem mc76 : mt_76.code = 33000 := by kernel_rfl
theorem mk76 : shN mt_76.dk = 33 := by kernel_rfl
theorem me76 : shN mt_76.de = 0 := by kernel_rfl
theorem mz76 : ofValue mt_76.de.zero = (eB false) := by kernel_rfl
theorem mkt76 : mt_76.kt = 39 := by kernel_rfl
theorem ko76 : KeyOk Tryd.prog mt_76.kt (fun a : S_api_OutPoint => .agg (vals (C_api_OutPoint a)).toArray) Q_76 := by
  rw [mkt76]; exact keyOk_flat (d := 9) ti39 rfl ft39 (Nat.le_of_ble_eq_true rfl) (fun _ => rfl) (fun _ _ => rfl)
theorem zH {p : Prop} (h : p := by simp only [lent, lendSet, lendSet_nil, rnH, Blk.rn, V.rns, V.rn, sg, List.map_cons, List.map_nil, Option.map_some, Option.map_none, List.drop_succ_cons, List.drop_zero, List.drop_nil, List.set_cons_zero, List.set_cons_succ, List.cons_append, List.nil_append, List.append_nil, rns_eI, rns_eB, rns_eS, rns_eL, rns_C_api_OutPoint, rns_K_api_OutPoint, rns_C_api_Input, rns_K_api_Input, rns_C_api_Output, rns_K_api_Output, rns_M_76, rns_C_api_Coin, rns_K_api_Coin, rns_ar4, rns_ar8, rns_ar20, rns_ar32, rns_ar64, List.getElem?_cons_zero, List.getElem?_cons_succ, List.getElem?_nil, List.length_cons, List.length_nil, Nat.reduceAdd, Nat.reduceSub, Nat.add_zero, Nat.zero_add, Nat.sub_self, Nat.sub_zero]) : p := h
theorem zB {f : FuncId} {hs hs' hb hb' : Hp} {args xs : List V} {r v : V} (hc : Vm.Fn Tryd.prog f hs args r hs') (ρ : List Nat) (hnd : ρ.Nodup := by decide) (hlt : ρ.all (fun b => Nat.blt b hb.length) = true := by rfl)
    (hl : Lend (sg ρ hb.length) hb ρ hs := by repeat (first | exact Lend.nil | refine Lend.cons rfl rfl ?_ | refine Lend.cons rfl (rns_map (fun _ => rfl) _) ?_ | refine Lend.cons rfl (rns_flat (fun _ => rfl) _) ?_)) (hx : V.rns (sg ρ hb.length) args = xs := by first | rfl | (simp only [V.rn, V.rns, rns_eI, rns_eB] <;> rfl)) (hr : r.rn (sg ρ hb.length) = v := by first | rfl | (simp only [V.rn, V.rns, rns_eI, rns_eB] <;> rfl)) (hh : lent hb ρ hs' = hb' := by simp only [lent, lendSet, lendSet_nil, rnH, Blk.rn, V.rns, V.rn, sg, List.map_cons, List.map_nil, Option.map_some, Option.map_none, List.drop_succ_cons, List.drop_zero, List.drop_nil, List.set_cons_zero, List.set_cons_succ, List.cons_append, List.nil_append, List.append_nil, rns_eI, rns_eB, rns_eS, rns_eL, rns_C_api_OutPoint, rns_K_api_OutPoint, rns_C_api_Input, rns_K_api_Input, rns_C_api_Output, rns_K_api_Output, rns_M_76, rns_C_api_Coin, rns_K_api_Coin, rns_ar4, rns_ar8, rns_ar20, rns_ar32, rns_ar64, List.getElem?_cons_zero, List.getElem?_cons_succ, List.getElem?_nil, List.length_cons, List.length_nil, Nat.reduceAdd, Nat.reduceSub, Nat.add_zero, Nat.zero_add, Nat.sub_self, Nat.sub_zero]) : Vm.Fn Tryd.prog f hb xs v hb' := Vm.Fn.lendB hc ρ hnd hlt hl hx hr hh
theorem zL {f : FuncId} {hs hs' hb hb' : Hp} {args xs : List V} {r v : V} (hc : Vm.Fn Tryd.prog f hs args r hs') (ρ β : List Nat) (hnd : ρ.Nodup := by decide) (hlt : ρ.all (fun b => Nat.blt b hb.length) = true := by rfl) (hdis : ∀ b ∈ β, b ∉ ρ := by decide)
    (hl : Lend (sg ρ hb.length) hb ρ hs := by repeat (first | exact Lend.nil | refine Lend.cons rfl rfl ?_ | refine Lend.cons rfl (rns_map (fun _ => rfl) _) ?_ | refine Lend.cons rfl (rns_flat (fun _ => rfl) _) ?_))
    (hx : Brw (sg ρ hb.length) (only β hb) xs args := by repeat (first | exact Brw.nil | refine Brw.same rfl ?_ | refine Brw.row (exp_slT rfl rfl (fun _ => rfl)) ?_ | refine Brw.same (by simp only [V.rn, V.rns, rns_eI, rns_eB]) ?_))
    (hrf : r.rf = true := by first | rfl | simp [V.rf, V.rfs, rfs_eI, rfs_eB]) (hrb : rfB hs' := by repeat (first | exact rfB.nil | refine rfB.dead ?_ | refine rfB.live rfl ?_ | refine rfB.live (rfs_map (fun _ => rfl) _) ?_ | refine rfB.live (rfs_flat (fun _ => rfl) _) ?_))
    (hr : r.rn (sg ρ hb.length) = v := by first | rfl | (simp only [V.rn, V.rns, rns_eI, rns_eB] <;> rfl)) (hh : lent hb ρ hs' = hb' := by simp only [lent, lendSet, lendSet_nil, rnH, Blk.rn, V.rns, V.rn, sg, List.map_cons, List.map_nil, Option.map_some, Option.map_none, List.drop_succ_cons, List.drop_zero, List.drop_nil, List.set_cons_zero, List.set_cons_succ, List.cons_append, List.nil_append, List.append_nil, rns_eI, rns_eB, rns_eS, rns_eL, rns_C_api_OutPoint, rns_K_api_OutPoint, rns_C_api_Input, rns_K_api_Input, rns_C_api_Output, rns_K_api_Output, rns_M_76, rns_C_api_Coin, rns_K_api_Coin, rns_ar4, rns_ar8, rns_ar20, rns_ar32, rns_ar64, List.getElem?_cons_zero, List.getElem?_cons_succ, List.getElem?_nil, List.length_cons, List.length_nil, Nat.reduceAdd, Nat.reduceSub, Nat.add_zero, Nat.zero_add, Nat.sub_self, Nat.sub_zero]) : Vm.Fn Tryd.prog f hb xs v hb' := Vm.Fn.lendR hc ρ β hnd hlt hdis hl hx hrf hrb hr hh
end Go.Proofs.YtnoofjkaeidagaaDoor
