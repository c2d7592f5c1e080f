import Derived.Test.YtbjiaiobpbpjoaaPlainW1
set_option linter.unusedSimpArgs false
set_option linter.unusedVariables false
set_option linter.unusedSectionVars false
namespace Go.Proofs.Ytbjiaiobpbpjoaa
open Go Go.Vm

/-! ### The encoding of a transaction -/
/-- What the statements keep to. -/
structure Kept (ins : List S_api_Input) (outs : List S_api_Output) : Prop where
  ni : ins.length ≤ 70
  no : outs.length ≤ 70
  wit : ∀ x ∈ ins, x.Witness.length ≤ 40 ∧ ∀ w ∈ x.Witness, w.length ≤ 600
  scr : ∀ o ∈ outs, o.Script.length ≤ 600
  tx : ∀ x ∈ ins, x.Prev.Tx.length = 32
def inB (x : S_api_Input) : List Int := (x.Prev.Tx ++ u32B x.Prev.Index) ++ u32B x.Sequence
def itB (w : List Int) : List Int := szB w.length ++ w
def wiB (x : S_api_Input) : List Int := szB x.Witness.length ++ x.Witness.flatMap itB
def encB (v : Int) (ins : List S_api_Input) (outs : List S_api_Output) (lock : Int) (wit : Bool) : List Int :=
  ((((u32B v ++ szB ins.length) ++ ins.flatMap inB) ++ szB outs.length) ++ outs.flatMap outB) ++ u32B lock ++ (if wit then ins.flatMap wiB else [])
theorem flat_le {α : Type} {g : α → List Int} {c : Nat} : ∀ (l : List α), (∀ x ∈ l, (g x).length ≤ c) → (l.flatMap g).length ≤ l.length * c
  | [], _ => by simp
  | x :: l, h => by
    have h1 := h x (by simp)
    have h2 := flat_le l (fun y hy => h y (by simp [hy]))
    rw [List.flatMap_cons, List.length_append, List.length_cons, Nat.add_mul, Nat.one_mul]; omega
theorem itB_le {w : List Int} (h : w.length ≤ 600) : (itB w).length ≤ 605 := by have := szB_len w.length; simp only [itB, List.length_append]; omega
theorem wiB_le {x : S_api_Input} (h : x.Witness.length ≤ 40 ∧ ∀ w ∈ x.Witness, w.length ≤ 600) : (wiB x).length ≤ 24205 := by
  have h1 := szB_len x.Witness.length
  have h2 := flat_le (g := itB) (c := 605) x.Witness (fun w hw => itB_le (h.2 w hw))
  have h3 := Nat.mul_le_mul_right 605 h.1
  simp only [wiB, List.length_append]; omega
theorem inB_len {x : S_api_Input} (h : x.Prev.Tx.length = 32) : (inB x).length = 40 := by simp [inB, u32B_len, h]
theorem outB_le {o : S_api_Output} (h : o.Script.length ≤ 600) : (outB o).length ≤ 613 := by
  have := szB_len o.Script.length
  simp only [outB, List.length_append, u64B_len]; omega
theorem insB_le {ins : List S_api_Input} {outs : List S_api_Output} (K : Kept ins outs) : (ins.flatMap inB).length ≤ 2800 := by
  have := flat_le (g := inB) (c := 40) ins (fun x hx => Nat.le_of_eq (inB_len (K.tx x hx)))
  have := Nat.mul_le_mul_right 40 K.ni
  omega
theorem outsB_le {ins : List S_api_Input} {outs : List S_api_Output} (K : Kept ins outs) : (outs.flatMap outB).length ≤ 42910 := by
  have := flat_le (g := outB) (c := 613) outs (fun x hx => outB_le (K.scr x hx))
  have := Nat.mul_le_mul_right 613 K.no
  omega
theorem wisB_le {ins : List S_api_Input} {outs : List S_api_Output} (K : Kept ins outs) : (ins.flatMap wiB).length ≤ 1694350 := by
  have := flat_le (g := wiB) (c := 24205) ins (fun x hx => wiB_le (K.wit x hx))
  have := Nat.mul_le_mul_right 24205 K.ni
  omega
section
variable (N : Nat) (hN : 70000 ≤ N) {v : Int} {ins : List S_api_Input} {outs : List S_api_Output} {lock : Int} (K : Kept ins outs)
include hN K
theorem aL8 (b : Bool) (acc : List Int) (h : acc.length ≤ 100000) : tx_encode_L8 N v ins outs lock b N 0 acc = some (acc ++ ins.flatMap inB) := by
  have hn := K.ni
  have hl := insB_le K
  refine loop_flat (f := tx_encode_L8 N v ins outs lock b) (xs := ins) (g := inB) (B := 200000) (by omega) (fun m j acc hj hB => ?_) (fun m j acc hj => ?_) N 0 acc (by omega) (by omega) (by rw [List.drop_zero]; omega)
  · have ht := K.tx _ (List.getElem_mem hj)
    rw [inB_len ht] at hB
    rw [tx_encode_L8, dT hj, if_pos rfl, idx_lt ins hj]
    simp only [Option.bind_some, aPoint N hN _ _ ht]
    rw [appB (by simp [u32B_len]; omega)]
    simp only [Option.bind_some, aU32 N hN _ _ (show ([] : List Int).length ≤ 40000000 by simp), List.nil_append]
    rw [appB (by simp [u32B_len]; omega)]
    simp only [Option.bind_some, i1 (show j ≤ 100000 by omega), inB, List.append_assoc]
  · rw [tx_encode_L8, dF (by omega)]; rfl
theorem rL8 (b : Bool) (acc : List Int) (h : acc.length ≤ 100000) : ref09_encode_L8 N v ins outs lock b N 0 acc = some (acc ++ ins.flatMap inB) := by
  have hn := K.ni
  have hl := insB_le K
  refine loop_flat (f := ref09_encode_L8 N v ins outs lock b) (xs := ins) (g := inB) (B := 200000) (by omega) (fun m j acc hj hB => ?_) (fun m j acc hj => ?_) N 0 acc (by omega) (by omega) (by rw [List.drop_zero]; omega)
  · have ht := K.tx _ (List.getElem_mem hj)
    rw [inB_len ht] at hB
    rw [ref09_encode_L8, dT hj, if_pos rfl, idx_lt ins hj]
    simp only [Option.bind_some, rPoint N hN _ _ ht]
    rw [appB (by simp [u32B_len]; omega)]
    simp only [Option.bind_some]
    rw [rU32 N hN (acc ++ (ins[j].Prev.Tx ++ u32B ins[j].Prev.Index)) _ (by simp [u32B_len]; omega)]
    simp only [Option.bind_some, ref09_encode_J9, i1 (show j ≤ 100000 by omega), inB, List.append_assoc]
  · rw [ref09_encode_L8, dF (by omega)]; rfl
theorem aL7 (b : Bool) (acc : List Int) (h : acc.length ≤ 100000) : tx_encode_L7 N v ins outs lock b N 0 acc = some (acc ++ outs.flatMap outB) := by
  have hn := K.no
  have hl := outsB_le K
  refine loop_flat (f := tx_encode_L7 N v ins outs lock b) (xs := outs) (g := outB) (B := 200000) (by omega) (fun m j acc hj hB => ?_) (fun m j acc hj => ?_) N 0 acc (by omega) (by omega) (by rw [List.drop_zero]; omega)
  · have ht := K.scr _ (List.getElem_mem hj)
    have hs := szB_len outs[j].Script.length
    rw [tx_encode_L7, dT hj, if_pos rfl, idx_lt outs hj]
    simp only [Option.bind_some, aU64 N hN _ _ (show ([] : List Int).length ≤ 40000000 by simp), List.nil_append]
    rw [appB (by rw [u64B_len]; omega)]
    simp only [Option.bind_some, aBytes N hN [] _ (show outs[j].Script.length ≤ 1000000 by omega) (by simp), List.nil_append]
    rw [appB (by simp only [List.length_append, u64B_len]; omega)]
    simp only [Option.bind_some, i1 (show j ≤ 100000 by omega), outB, List.append_assoc]
  · rw [tx_encode_L7, dF (by omega)]; rfl
theorem rL7 (b : Bool) (acc : List Int) (h : acc.length ≤ 100000) : ref09_encode_L7 N v ins outs lock b N 0 acc = some (acc ++ outs.flatMap outB) := by
  have hn := K.no
  have hl := outsB_le K
  refine loop_flat (f := ref09_encode_L7 N v ins outs lock b) (xs := outs) (g := outB) (B := 200000) (by omega) (fun m j acc hj hB => ?_) (fun m j acc hj => ?_) N 0 acc (by omega) (by omega) (by rw [List.drop_zero]; omega)
  · have ht := K.scr _ (List.getElem_mem hj)
    rw [ref09_encode_L7, dT hj, if_pos rfl, idx_lt outs hj]
    simp only [Option.bind_some, rOut N hN _ ht]
    rw [appB (by omega)]
    simp only [Option.bind_some, i1 (show j ≤ 100000 by omega)]
  · rw [ref09_encode_L7, dF (by omega)]; rfl
theorem aL6 (x : Int) (w : S_api_Input) (hw : w.Witness.length ≤ 40 ∧ ∀ z ∈ w.Witness, z.length ≤ 600) (acc : List Int) (h : acc.length ≤ 5000000) : tx_encode_L6 N ins x w N 0 acc = some (acc ++ w.Witness.flatMap itB) := by
  have hl := flat_le (g := itB) (c := 605) w.Witness (fun z hz => itB_le (hw.2 z hz))
  have := Nat.mul_le_mul_right 605 hw.1
  refine loop_flat (f := tx_encode_L6 N ins x w) (xs := w.Witness) (g := itB) (B := 6000000) (by omega) (fun m j acc hj hB => ?_) (fun m j acc hj => ?_) N 0 acc (by omega) (by omega) (by rw [List.drop_zero]; omega)
  · have ht := hw.2 _ (List.getElem_mem hj)
    rw [tx_encode_L6, dT hj, if_pos rfl, idx_lt w.Witness hj]
    simp only [Option.bind_some, aBytes N hN [] _ (show w.Witness[j].length ≤ 1000000 by omega) (by simp), List.nil_append]
    rw [appB (by simp only [itB] at hB; omega)]
    simp only [Option.bind_some, i1 (show j ≤ 100000 by omega), itB]
  · rw [tx_encode_L6, dF (by omega)]; rfl
theorem rL6 (b : Bool) (x : Int) (w : S_api_Input) (hw : w.Witness.length ≤ 40 ∧ ∀ z ∈ w.Witness, z.length ≤ 600) (acc : List Int) (h : acc.length ≤ 5000000) : ref09_encode_L6 N ins b x w N 0 acc = some (acc ++ w.Witness.flatMap itB) := by
  have hl := flat_le (g := itB) (c := 605) w.Witness (fun z hz => itB_le (hw.2 z hz))
  have := Nat.mul_le_mul_right 605 hw.1
  refine loop_flat (f := ref09_encode_L6 N ins b x w) (xs := w.Witness) (g := itB) (B := 6000000) (by omega) (fun m j acc hj hB => ?_) (fun m j acc hj => ?_) N 0 acc (by omega) (by omega) (by rw [List.drop_zero]; omega)
  · have ht := hw.2 _ (List.getElem_mem hj)
    rw [ref09_encode_L6, dT hj, if_pos rfl, idx_lt w.Witness hj]
    simp only [Option.bind_some]
    rw [rBytes N hN acc _ (show w.Witness[j].length ≤ 1000000 by omega) (by omega)]
    simp only [Option.bind_some, i1 (show j ≤ 100000 by omega), itB]
  · rw [ref09_encode_L6, dF (by omega)]; rfl
theorem aL4 (acc : List Int) (h : acc.length ≤ 1000000) : tx_encode_L4 N ins N 0 acc = some (acc ++ ins.flatMap wiB) := by
  have hn := K.ni
  have hl := wisB_le K
  refine loop_flat (f := tx_encode_L4 N ins) (xs := ins) (g := wiB) (B := 4000000) (by omega) (fun m j acc hj hB => ?_) (fun m j acc hj => ?_) N 0 acc (by omega) (by omega) (by rw [List.drop_zero]; omega)
  · have ht := K.wit _ (List.getElem_mem hj)
    have hs := szB_len ins[j].Witness.length
    rw [tx_encode_L4, dT hj, if_pos rfl, idx_lt ins hj]
    simp only [Option.bind_some, aSize N hN [] _ (show ins[j].Witness.length ≤ 1000000 by omega) (by simp), List.nil_append]
    rw [appB (by omega)]
    simp only [Option.bind_some]
    rw [aL6 N hN K _ _ ht _ (by rw [List.length_append]; omega)]
    simp only [Option.bind_some, tx_encode_J5, i1 (show j ≤ 100000 by omega), wiB, List.append_assoc]
  · rw [tx_encode_L4, dF (by omega)]; rfl
theorem rL4 (acc : List Int) (h : acc.length ≤ 1000000) : ref09_encode_L4 N ins true N 0 acc = some (acc ++ ins.flatMap wiB) := by
  have hn := K.ni
  have hl := wisB_le K
  refine loop_flat (f := ref09_encode_L4 N ins true) (xs := ins) (g := wiB) (B := 4000000) (by omega) (fun m j acc hj hB => ?_) (fun m j acc hj => ?_) N 0 acc (by omega) (by omega) (by rw [List.drop_zero]; omega)
  · have ht := K.wit _ (List.getElem_mem hj)
    have hs := szB_len ins[j].Witness.length
    rw [ref09_encode_L4, dT hj, if_pos rfl, idx_lt ins hj]
    simp only [Option.bind_some, Bool.not_true, Bool.false_eq_true, if_false]
    rw [rSize N hN acc _ (show ins[j].Witness.length ≤ 1000000 by omega) (by omega)]
    simp only [Option.bind_some]
    rw [rL6 N hN K _ _ _ ht _ (by rw [List.length_append]; omega)]
    simp only [Option.bind_some, ref09_encode_J5, i1 (show j ≤ 100000 by omega), wiB, List.append_assoc]
  · rw [ref09_encode_L4, dF (by omega)]; rfl
theorem encode_eq : tx_encode N v ins outs lock true = some (encB v ins outs lock true) := by
  have hn := K.ni
  have ho := K.no
  have h1 := szB_len ins.length
  have h2 := szB_len outs.length
  have h3 := insB_le K
  have h4 := outsB_le K
  simp only [tx_encode, aU32 N hN [] _ (by simp), Option.bind_some, List.nil_append, aSize N hN [] _ (show ins.length ≤ 1000000 by omega) (by simp)]
  rw [appB (by rw [u32B_len]; omega)]
  simp only [Option.bind_some]
  rw [aL8 N hN K _ _ (by rw [List.length_append, u32B_len]; omega)]
  simp only [Option.bind_some, tx_encode_J1, aSize N hN [] _ (show outs.length ≤ 1000000 by omega) (by simp), List.nil_append]
  rw [appB (by simp only [List.length_append, u32B_len]; omega)]
  simp only [Option.bind_some]
  rw [aL7 N hN K _ _ (by simp only [List.length_append, u32B_len]; omega)]
  simp only [Option.bind_some, tx_encode_J2, aU32 N hN [] _ (show ([] : List Int).length ≤ 40000000 by simp), List.nil_append]
  rw [appB (by simp only [List.length_append, u32B_len]; omega)]
  simp only [Option.bind_some, Bool.not_true, Bool.false_eq_true, if_false]
  rw [aL4 N hN K _ (by simp only [List.length_append, u32B_len]; omega)]
  rfl
theorem rencode_eq : ref09_encode N v ins outs lock true = some (encB v ins outs lock true) := by
  have hn := K.ni
  have ho := K.no
  have h1 := szB_len ins.length
  have h2 := szB_len outs.length
  have h3 := insB_le K
  have h4 := outsB_le K
  simp only [ref09_encode, rU32 N hN [] _ (by simp), Option.bind_some, List.nil_append]
  rw [rSize N hN (u32B v) _ (show ins.length ≤ 1000000 by omega) (by rw [u32B_len]; omega)]
  simp only [Option.bind_some]
  rw [rL8 N hN K _ _ (by rw [List.length_append, u32B_len]; omega)]
  simp only [Option.bind_some, ref09_encode_J1]
  rw [rSize N hN _ _ (show outs.length ≤ 1000000 by omega) (by simp only [List.length_append, u32B_len]; omega)]
  simp only [Option.bind_some]
  rw [rL7 N hN K _ _ (by simp only [List.length_append, u32B_len]; omega)]
  simp only [Option.bind_some, ref09_encode_J2]
  rw [rU32 N hN _ _ (by simp only [List.length_append, u32B_len]; omega)]
  simp only [Option.bind_some]
  rw [rL4 N hN K _ (by simp only [List.length_append, u32B_len]; omega)]
  rfl
end
end Go.Proofs.Ytbjiaiobpbpjoaa
