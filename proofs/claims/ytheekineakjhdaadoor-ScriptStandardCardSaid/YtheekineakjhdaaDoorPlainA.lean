import Derived.Test.YtheekineakjhdaaDoorPlainN
set_option linter.unusedSimpArgs false
set_option linter.unusedVariables false
namespace Go.Proofs.YtheekineakjhdaaDoor
open Go Go.Vm

/-! ### Operations: their errors -/
def ftB (k1 k2 k3 k4 k5 k6 k7 k8 k9 : Bool) : Int :=
  if !(k1 && k2) then 80 else if !k3 && k4 then 6 else if !k5 && (k6 || k7) then 6 else if k8 then 4 else if k5 && !k9 then 5 else 0
/-- The error of an operation, 0 for none. -/
def ft (o : S_api_Op) : Int := ftB (decide (1 ≤ o.Code)) (decide (o.Code ≤ 17)) (o.Code == 1) (decide (0 < (o.Data.length : Int))) (o.Code == 11) (o.M != 0) (o.N != 0) (decide (255 < (o.Data.length : Int)))
  (decide (1 ≤ o.N) && decide (o.N ≤ 15) && decide (1 ≤ o.M) && decide (o.M ≤ o.N))
theorem known_eq (N : Nat) (c : Int) : script_known N c = some (decide (1 ≤ c) && decide (c ≤ 17)) := by
  unfold script_known script_known_J1
  cases decide (1 ≤ c) <;> simp
theorem inRange_eq (N : Nat) (m n : Int) : script_inRange N m n = some (decide (1 ≤ n) && decide (n ≤ 15) && decide (1 ≤ m) && decide (m ≤ n)) := by
  unfold script_inRange script_inRange_J1
  cases decide (1 ≤ n) <;> cases decide (n ≤ 15) <;> cases decide (1 ≤ m) <;> simp
theorem bneN (a b : Int) : (a != b) = !(a == b) := rfl
theorem check_eq (N : Nat) (o : S_api_Op) : script_check N o.Code o.Data o.M o.N = some (ft o) := by
  unfold script_check script_check_J1 script_check_J2 script_check_J3 ft ftB
  rw [known_eq, inRange_eq]
  simp only [Option.bind_some, bneN o.Code 1, bneN o.Code 11]
  cases decide (1 ≤ o.Code) && decide (o.Code ≤ 17) <;> cases o.Code == 1 <;> cases o.Code == 11 <;> cases o.M != 0 <;> cases o.N != 0 <;> cases decide (0 < (o.Data.length : Int)) <;> cases decide (255 < (o.Data.length : Int)) <;>
    cases decide (1 ≤ o.N) && decide (o.N ≤ 15) && decide (1 ≤ o.M) && decide (o.M ≤ o.N) <;> rfl
theorem dn1 (c : Int) : decide (c < 1) = !decide (1 ≤ c) := by by_cases h : c < 1 <;> simp [h] <;> omega
theorem dn2 (a c : Int) : decide (a < c) = !decide (c ≤ a) := by by_cases h : a < c <;> simp [h] <;> omega
theorem fault_eq (N : Nat) (o : S_api_Op) : ref08_fault N o.Code o.Data o.M o.N = some (ft o) := by
  unfold ref08_fault ref08_fault_J1 ref08_fault_J4 ref08_fault_J2 ref08_fault_J3 ft ftB
  simp only [bneN o.Code 1, bneN o.Code 11, dn1, dn2 17 o.Code, dn2 15 o.N, dn2 o.N o.M]
  generalize decide (1 ≤ o.Code) = k1
  generalize decide (o.Code ≤ 17) = k2
  generalize (o.Code == 1) = k3
  generalize (o.Code == 11) = k5
  generalize (o.M != 0) = k6
  generalize (o.N != 0) = k7
  generalize decide (0 < (o.Data.length : Int)) = k4
  generalize decide (255 < (o.Data.length : Int)) = k8
  generalize decide (1 ≤ o.N) = a
  generalize decide (o.N ≤ 15) = b
  generalize decide (1 ≤ o.M) = c
  generalize decide (o.M ≤ o.N) = d
  revert k1 k2 k3 k5 k6 k7 k4 k8 a b c d
  decide +kernel
/-! ### Operations: their bytes -/
theorem row_L2_eq (N : Nat) (ps : List (List Int)) (hp : ps.length ≤ 100) (ht : ps.flatten.length ≤ 10000) : ∀ (m j : Nat) (l : List Int), l.length + (ps.drop j).flatten.length ≤ 20000 → ps.length - j < m → j ≤ ps.length → script_row_L2 N ps m (j : Int) l = some (l ++ (ps.drop j).flatten)
  | 0, j, l, _, hm, _ => by omega
  | m + 1, j, l, hl, hm, hj => by
    rw [script_row_L2]
    by_cases hjl : j < ps.length
    · rw [List.drop_eq_getElem_cons hjl, List.flatten_cons, List.length_append] at hl
      simp only [dT hjl, if_true, idx_lt ps hjl, Option.bind_some, app2 (l := l) (m := ps[j]) (by omega), i1 (show j ≤ 100000 by omega)]
      rw [row_L2_eq N ps hp ht m (j + 1) (l ++ ps[j]) (by rw [List.length_append]; omega) (by omega) (by omega), List.drop_eq_getElem_cons hjl, List.flatten_cons, List.append_assoc]
    · have : ps.drop j = [] := List.drop_eq_nil_of_le (by omega)
      simp only [dF hjl, Bool.false_eq_true, if_false, this, List.flatten_nil, List.append_nil]
theorem row_eq (N : Nat) (hN : 70000 ≤ N) (ps : List (List Int)) (hp : ps.length ≤ 100) (ht : ps.flatten.length ≤ 10000) : script_row N ps = some ps.flatten := by
  have := row_L2_eq N ps hp ht N 0 [] (by simp only [List.length_nil, List.drop_zero]; omega) (by omega) (by omega)
  rw [show ((0 : Nat) : Int) = 0 from rfl, List.drop_zero, List.nil_append] at this
  simp only [script_row, this, Option.bind_some, script_row_J1]
theorem joined_eq (N : Nat) (a b : List Int) (h : a.length + b.length ≤ 100000) : ref01_joined N a b = some (a ++ b) := by
  have hl := lim_big'
  have e1 : IntKind.i64.wrap ((a.length : Int) + (b.length : Int)) = ((a.length + b.length : Nat) : Int) := by rw [w64 (by omega) (by omega)]; omega
  unfold ref01_joined
  rw [e1, mks_ok (by omega)]
  simp only [Option.bind_some, List.take_zero, app2 (l := []) (m := a) (by simp; omega), List.nil_append, app2 (l := a) (m := b) (by omega)]
theorem Join_L2_eq (N : Nat) (ps : List (List Int)) (hp : ps.length ≤ 100) : ∀ (m j : Nat) (l : List Int), l.length + (ps.drop j).flatten.length ≤ 20000 → ps.length - j < m → j ≤ ps.length → ref01_Join_L2 N ps m (j : Int) l = some (l ++ (ps.drop j).flatten)
  | 0, j, l, _, hm, _ => by omega
  | m + 1, j, l, hl, hm, hj => by
    rw [ref01_Join_L2]
    by_cases hjl : j < ps.length
    · rw [List.drop_eq_getElem_cons hjl, List.flatten_cons, List.length_append] at hl
      simp only [dT hjl, if_true, idx_lt ps hjl, Option.bind_some, joined_eq N l ps[j] (by omega), i1 (show j ≤ 100000 by omega)]
      rw [Join_L2_eq N ps hp m (j + 1) (l ++ ps[j]) (by rw [List.length_append]; omega) (by omega) (by omega), List.drop_eq_getElem_cons hjl, List.flatten_cons, List.append_assoc]
    · have : ps.drop j = [] := List.drop_eq_nil_of_le (by omega)
      simp only [dF hjl, Bool.false_eq_true, if_false, this, List.flatten_nil, List.append_nil]
theorem Join_eq (N : Nat) (hN : 70000 ≤ N) (ps : List (List Int)) (hp : ps.length ≤ 100) (ht : ps.flatten.length ≤ 10000) : ref01_Join N ps = some ps.flatten := by
  have := Join_L2_eq N ps hp N 0 [] (by simp only [List.length_nil, List.drop_zero]; omega) (by omega) (by omega)
  rw [show ((0 : Nat) : Int) = 0 from rfl, List.drop_zero, List.nil_append] at this
  simp only [ref01_Join, this, Option.bind_some, ref01_Join_J1]
/-- The bytes of an operation. -/
def en (o : S_api_Op) : List Int :=
  if o.Code == 1 then [1, IntKind.u8.wrap (o.Data.length : Int)] ++ o.Data
  else if o.Code == 11 then [11, IntKind.u8.wrap o.M, IntKind.u8.wrap o.N] else [IntKind.u8.wrap o.Code]
theorem en_len (o : S_api_Op) : (en o).length ≤ o.Data.length + 3 := by
  unfold en
  split
  · simp
  · split <;> simp
theorem encode_both (N : Nat) (hN : 70000 ≤ N) (o : S_api_Op) (h : o.Data.length ≤ 300) : script_encode N o.Code o.Data o.M o.N = some (en o) ∧ ref08_encode N o.Code o.Data o.M o.N = some (en o) := by
  unfold script_encode ref08_encode en
  cases o.Code == 1 with
  | true =>
    have hp : ([[1, IntKind.u8.wrap (o.Data.length : Int)], o.Data] : List (List Int)).length ≤ 100 := by simp
    have ht : ([[1, IntKind.u8.wrap (o.Data.length : Int)], o.Data] : List (List Int)).flatten.length ≤ 10000 := by simp; omega
    simp only [if_true, script_push, row_eq N hN _ hp ht, Join_eq N hN _ hp ht, Option.bind_some]
    simp
  | false =>
    simp only [Bool.false_eq_true, if_false]
    cases o.Code == 11 <;> simp
/-! ### Assemble -/
def ff : List S_api_Op → Option Int
  | [] => none
  | o :: l => if ft o != 0 then some (ft o) else ff l
def fl (l : List S_api_Op) : List Int := l.flatMap en
def short (l : List S_api_Op) : Prop := l.length ≤ 1000 ∧ ∀ o ∈ l, o.Data.length ≤ 300
theorem fl_len : ∀ {l : List S_api_Op}, (∀ o ∈ l, o.Data.length ≤ 300) → (fl l).length ≤ 303 * l.length
  | [], _ => by simp [fl]
  | o :: l, h => by
    have h1 := en_len o
    have h2 := h o (by simp)
    have h3 := fl_len (l := l) (fun x hx => h x (by simp [hx]))
    simp only [fl, List.flatMap_cons, List.length_append, List.length_cons] at h3 ⊢
    omega
theorem fl_cons (o : S_api_Op) (l : List S_api_Op) : fl (o :: l) = en o ++ fl l := by simp [fl]
theorem Assemble_L2_eq (N : Nat) (hN : 70000 ≤ N) (l : List S_api_Op) (hs : short l) : ∀ (m j : Nat) (a : List Int), a.length ≤ 303 * j → l.length - j < m → j ≤ l.length → script_Assemble_L2 N l m (j : Int) a = some (match ff (l.drop j) with | some e => .ret ([], e) | none => .brk (a ++ fl (l.drop j)))
  | 0, j, a, _, hm, _ => by omega
  | m + 1, j, a, ha, hm, hj => by
    obtain ⟨hs1, hs2⟩ := hs
    rw [script_Assemble_L2]
    by_cases hjl : j < l.length
    · have hd := hs2 _ (List.getElem_mem hjl)
      have hel := en_len l[j]
      simp only [dT hjl, if_true, idx_lt l hjl, Option.bind_some, check_eq N l[j]]
      rw [List.drop_eq_getElem_cons hjl, ff]
      cases hf : ft l[j] != 0 with
      | true => simp
      | false =>
        simp only [Bool.false_eq_true, if_false, (encode_both N hN l[j] hd).1, Option.bind_some, app2 (l := a) (m := en l[j]) (by omega), i1 (show j ≤ 100000 by omega)]
        rw [Assemble_L2_eq N hN l ⟨hs1, hs2⟩ m (j + 1) (a ++ en l[j]) (by rw [List.length_append]; omega) (by omega) (by omega), fl_cons, List.append_assoc]
    · have : l.drop j = [] := List.drop_eq_nil_of_le (by omega)
      simp only [dF hjl, Bool.false_eq_true, if_false, this, ff]
      simp [fl]
def asm (l : List S_api_Op) : List Int × Int := match ff l with
  | some e => ([], e)
  | none => if 520 < (fl l).length then ([], 4) else (fl l, 0)
theorem Assemble_eq (N : Nat) (hN : 70000 ≤ N) (l : List S_api_Op) (hs : short l) : script_Assemble N l = some (asm l) := by
  have h := Assemble_L2_eq N hN l hs N 0 [] (by simp) (by have := hs.1; omega) (by omega)
  rw [show ((0 : Nat) : Int) = 0 from rfl, List.drop_zero, List.nil_append] at h
  unfold script_Assemble asm
  rw [h]
  cases ff l with
  | some e => rfl
  | none =>
    simp only [Option.bind_some, script_Assemble_J1]
    by_cases hl : 520 < (fl l).length
    · have : decide (520 < ((fl l).length : Int)) = true := decide_eq_true (by omega)
      simp only [this, hl, if_true]
    · have : decide (520 < ((fl l).length : Int)) = false := decide_eq_false (by omega)
      simp only [this, hl, Bool.false_eq_true, if_false]
theorem rAssemble_L4_eq (N : Nat) (l : List S_api_Op) (hs : l.length ≤ 1000) : ∀ (m j : Nat), l.length - j < m → j ≤ l.length → ref08_Assemble_L4 N l m (j : Int) = some (match ff (l.drop j) with | some e => .ret ([], e) | none => .brk ())
  | 0, j, hm, _ => by omega
  | m + 1, j, hm, hj => by
    rw [ref08_Assemble_L4]
    by_cases hjl : j < l.length
    · simp only [dT hjl, if_true, idx_lt l hjl, Option.bind_some, fault_eq N l[j]]
      rw [List.drop_eq_getElem_cons hjl, ff]
      cases hf : ft l[j] != 0 with
      | true => simp
      | false =>
        simp only [Bool.false_eq_true, if_false, i1 (show j ≤ 100000 by omega)]
        rw [rAssemble_L4_eq N l hs m (j + 1) (by omega) (by omega)]
    · have : l.drop j = [] := List.drop_eq_nil_of_le (by omega)
      simp only [dF hjl, Bool.false_eq_true, if_false, this, ff]
theorem rAssemble_L3_eq (N : Nat) (hN : 70000 ≤ N) (l : List S_api_Op) (hs : short l) : ∀ (m j : Nat) (a : List Int), a.length ≤ 520 → l.length - j < m → j ≤ l.length → ref08_Assemble_L3 N l m (j : Int) a = some (if 520 < (a ++ fl (l.drop j)).length then .ret ([], 4) else .brk (a ++ fl (l.drop j)))
  | 0, j, a, _, hm, _ => by omega
  | m + 1, j, a, ha, hm, hj => by
    obtain ⟨hs1, hs2⟩ := hs
    rw [ref08_Assemble_L3]
    by_cases hjl : j < l.length
    · have hd := hs2 _ (List.getElem_mem hjl)
      have hel := en_len l[j]
      simp only [dT hjl, if_true, idx_lt l hjl, Option.bind_some, (encode_both N hN l[j] hd).2, app2 (l := a) (m := en l[j]) (by omega)]
      rw [List.drop_eq_getElem_cons hjl, fl_cons, ← List.append_assoc]
      by_cases hb : 520 < (a ++ en l[j]).length
      · have e1 : decide (520 < ((a ++ en l[j]).length : Int)) = true := decide_eq_true (by omega)
        rw [e1, if_pos rfl, if_pos (by rw [List.length_append]; omega)]
      · have e1 : decide (520 < ((a ++ en l[j]).length : Int)) = false := decide_eq_false (by omega)
        rw [e1]
        simp only [Bool.false_eq_true, if_false, i1 (show j ≤ 100000 by omega)]
        rw [rAssemble_L3_eq N hN l ⟨hs1, hs2⟩ m (j + 1) (a ++ en l[j]) (by omega) (by omega) (by omega)]
    · have : l.drop j = [] := List.drop_eq_nil_of_le (by omega)
      simp only [dF hjl, Bool.false_eq_true, if_false, this]
      rw [if_neg (by simp [fl]; omega)]
      simp [fl]
theorem rAssemble_eq (N : Nat) (hN : 70000 ≤ N) (l : List S_api_Op) (hs : short l) : ref08_Assemble N l = some (asm l) := by
  have h4 := rAssemble_L4_eq N l hs.1 N 0 (by have := hs.1; omega) (by omega)
  have h3 := rAssemble_L3_eq N hN l hs N 0 [] (by simp) (by have := hs.1; omega) (by omega)
  rw [show ((0 : Nat) : Int) = 0 from rfl, List.drop_zero] at h4 h3
  rw [List.nil_append] at h3
  unfold ref08_Assemble asm
  rw [h4]
  cases ff l with
  | some e => rfl
  | none =>
    simp only [Option.bind_some, ref08_Assemble_J1, h3]
    by_cases hl : 520 < (fl l).length
    · simp only [hl, if_true]
    · simp only [hl, if_false, ref08_Assemble_J2]
/-! ### The law -/
def kb (l : List S_api_Op) : Bool := l.all fun o => decide (o.Data.length ≤ 300)
theorem keep_L2_eq (N : Nat) (l : List S_api_Op) (hs : l.length ≤ 1000) : ∀ (m j : Nat), l.length - j < m → j ≤ l.length → keep_Ops_L2 N l m (j : Int) = some (if kb (l.drop j) then .brk () else .ret false)
  | 0, j, hm, _ => by omega
  | m + 1, j, hm, hj => by
    rw [keep_Ops_L2]
    by_cases hjl : j < l.length
    · simp only [dT hjl, if_true, idx_lt l hjl, Option.bind_some]
      rw [List.drop_eq_getElem_cons hjl]
      by_cases hd : l[j].Data.length ≤ 300
      · have e1 : decide (300 < (l[j].Data.length : Int)) = false := decide_eq_false (by omega)
        have e2 : kb (l[j] :: l.drop (j + 1)) = kb (l.drop (j + 1)) := by simp only [kb, List.all_cons, hd, decide_true, Bool.true_and]
        rw [e1, e2]
        simp only [Bool.false_eq_true, if_false, i1 (show j ≤ 100000 by omega)]
        exact keep_L2_eq N l hs m (j + 1) (by omega) (by omega)
      · have e1 : decide (300 < (l[j].Data.length : Int)) = true := decide_eq_true (by omega)
        have e2 : kb (l[j] :: l.drop (j + 1)) = false := by simp only [kb, List.all_cons, hd, decide_false, Bool.false_and]
        rw [e1, e2]; simp
    · have : l.drop j = [] := List.drop_eq_nil_of_le (by omega)
      simp only [dF hjl, Bool.false_eq_true, if_false, this]
      rfl
theorem keep_eq (N : Nat) (hN : 70000 ≤ N) (l : List S_api_Op) : keep_Ops N l 40 = some (decide (l.length ≤ 40) && kb l) := by
  unfold keep_Ops
  by_cases h : l.length ≤ 40
  · have e1 : decide ((40 : Int) < (l.length : Int)) = false := decide_eq_false (by omega)
    have h2 := keep_L2_eq N l (by omega) N 0 (by omega) (by omega)
    rw [show ((0 : Nat) : Int) = 0 from rfl, List.drop_zero] at h2
    rw [e1]
    simp only [Bool.false_eq_true, if_false, h2, Option.bind_some, h, decide_true, Bool.true_and]
    cases kb l <;> rfl
  · have e1 : decide ((40 : Int) < (l.length : Int)) = true := decide_eq_true (by omega)
    rw [e1]
    simp [h]
theorem short_of {l : List S_api_Op} (h1 : l.length ≤ 40) (h2 : kb l = true) : short l := by
  refine ⟨by omega, fun o ho => ?_⟩
  have := List.all_eq_true.1 h2 o ho
  simpa using this
theorem ScriptAssembles_true (l : List S_api_Op) (hb : ∀ x ∈ l, Byt x.Data) : law08_ScriptAssembles NN l = some true := by
  unfold law08_ScriptAssembles
  simp only [law08_sane, Option.bind_some, Bool.not_true, Bool.false_eq_true, if_false, keep_eq NN (Nat.le_refl _) l]
  by_cases h1 : l.length ≤ 40
  · cases h2 : kb l with
    | false => simp
    | true =>
      have hs := short_of h1 h2
      simp only [h1, decide_true, Bool.and_self, Bool.not_true, Bool.false_eq_true, if_false, Assemble_eq NN (Nat.le_refl _) l hs, rAssemble_eq NN (Nat.le_refl _) l hs, Option.bind_some, beq_self_eq_true, if_true, Same_self, law08_ScriptAssembles_J1]
  · simp [h1]
end Go.Proofs.YtheekineakjhdaaDoor
