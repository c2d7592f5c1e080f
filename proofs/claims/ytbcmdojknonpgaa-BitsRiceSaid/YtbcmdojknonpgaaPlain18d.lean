import Derived.Test.YtbcmdojknonpgaaPlain18c
set_option linter.unusedSimpArgs false
set_option linter.unusedVariables false
namespace Go.Proofs.Ytbcmdojknonpgaa
open Go Go.Vm

/-! ### Rice codes -/
def code (v p : Nat) : List Bool := List.replicate (v / 2 ^ p) true ++ false :: bitsOf v p
theorem code_length (v p : Nat) : (code v p).length = v / 2 ^ p + 1 + p := by simp [code, bitsOf]; omega
theorem AppendRice_L4_eq (N v p ones : Nat) :
    ∀ (m j : Nat) (l : List Int) (n : Nat), j ≤ ones → ones - j < m → ones ≤ 65536 → Ok l n → n + (ones - j) ≤ 1600000 → bits_AppendRice_L4 N (v : Int) (p : Int) (ones : Int) m (j : Int) (n : Int) l = some (((n + (ones - j) : Nat) : Int), puts l n (List.replicate (ones - j) true))
  | 0, j, l, n, _, hm, _, _, _ => by omega
  | m + 1, j, l, n, hj, hm, ho, h, hn => by
    rw [bits_AppendRice_L4]
    by_cases hjk : j < ones
    · have e1 : decide ((j : Int) < (ones : Int)) = true := by simpa using hjk
      have e3 : IntKind.u64.wrap ((j : Int) + 1) = ((j + 1 : Nat) : Int) := by rw [wu64 (by omega) (by omega)]; simp
      simp only [e1, if_true, e3]
      rw [put_eq N l n true h (by omega)]
      simp only [Option.bind_some]
      obtain ⟨h1, _, _⟩ := putL_ok true h (by omega)
      rw [AppendRice_L4_eq N v p ones m (j + 1) _ (n + 1) hjk (by omega) ho h1 (by omega)]
      rw [show ones - j = (ones - (j + 1)) + 1 by omega, List.replicate_succ, puts]
      congr 2
      congr 1
      omega
    · have e1 : decide ((j : Int) < (ones : Int)) = false := by simp; omega
      have : j = ones := by omega
      subst this
      simp [e1, puts]
theorem AppendRice_aux (N : Nat) (hNN : 70000 ≤ N) (l : List Int) (n : Nat) (h : Ok l n) (v p ones : Nat) (hv : v < 2 ^ 64) (hp : p ≤ 32) (hs : shr .u64 (v : Int) (p : Int) = some (ones : Int)) (ho : ones ≤ 65536) (hn : n + (ones + 1 + p) ≤ 1600000) : bits_AppendRice N l (n : Int) (v : Int) (p : Int) = some (puts l n (List.replicate ones true ++ ([false] ++ bitsOf v p)), ((n + (ones + 1 + p) : Nat) : Int), 0) := by
  have := h.max
  have := h.len
  unfold bits_AppendRice bits_AppendRice_J1 bits_AppendRice_J2 bits_AppendRice_J3
  rw [bits_Valid_eq N l n h.byt (by omega) ⟨by omega, by omega⟩, h.valid]
  have e1 : decide ((p : Int) < 0) = false := by simp
  have e2 : decide (32 < (p : Int)) = false := by simp; omega
  simp only [Option.bind_some, Bool.not_true, Bool.false_eq_true, if_false, e1, e2, hs]
  have e3 : decide (65536 < (ones : Int)) = false := by simp; omega
  have e4 : decide (1600000 < IntKind.i64.wrap (IntKind.i64.wrap (IntKind.i64.wrap ((n : Int) + IntKind.i64.wrap (ones : Int)) + 1) + (p : Int))) = false := by
    rw [w64 (a := (ones : Int)) (by omega) (by omega), w64 (a := (n : Int) + (ones : Int)) (by omega) (by omega), w64 (a := (n : Int) + (ones : Int) + 1) (by omega) (by omega), w64 (by omega) (by omega)]
    simp; omega
  simp only [e3, e4, Bool.false_eq_true, if_false]
  rw [begin_eq N l _ (by omega)]
  simp only [Option.bind_some]
  have hL := AppendRice_L4_eq N v p ones N 0 l n (by omega) (by omega) ho h (by omega)
  simp only [Nat.sub_zero] at hL
  rw [show ((0 : Nat) : Int) = 0 from rfl] at hL
  rw [hL]
  simp only [Option.bind_some]
  obtain ⟨h1, _, _⟩ := puts_ok (bs := List.replicate ones true) h (by simp; omega)
  simp only [List.length_replicate] at h1
  rw [put_eq N _ (n + ones) false h1 (by omega)]
  simp only [Option.bind_some]
  obtain ⟨h2, _, _⟩ := putL_ok false h1 (by omega)
  rw [writer_number_eq N v p hv (by omega) _ (n + ones + 1) h2 (by omega) (by omega)]
  simp only [Option.bind_some]
  rw [puts_append, puts_append]
  simp only [List.length_replicate, List.length_cons, List.length_nil, puts]
  congr 3
  congr 1
  omega
theorem AppendRice_eq (N : Nat) (hNN : 70000 ≤ N) (l : List Int) (n : Nat) (h : Ok l n) (v p : Nat) (hv : v < 2 ^ 64) (hp : p ≤ 32) (ho : v / 2 ^ p ≤ 65536) (hn : n + (v / 2 ^ p + 1 + p) ≤ 1600000) : bits_AppendRice N l (n : Int) (v : Int) (p : Int) = some (puts l n (code v p), ((n + (v / 2 ^ p + 1 + p) : Nat) : Int), 0) :=
  AppendRice_aux N hNN l n h v p (v / 2 ^ p) hv hp (shr_nat (k := .u64) v p hv) ho hn
theorem ReadRice_L3_eq (N : Nat) (l : List Int) (n : Nat) (h : Ok l n) (a p e : Nat) (he : a ≤ e) (hen : e ≤ n) (hlim : e - a ≤ 65536) (hones : ∀ i, a ≤ i → i < e → bitAt l i = true) (hend : e = n ∨ bitAt l e = false) :
    ∀ (m j : Nat), a ≤ j → j ≤ e → e - j < m → bits_ReadRice_L3 N l (n : Int) (a : Int) (p : Int) m (j : Int) = some (.brk (e : Int))
  | 0, j, _, _, hm => by omega
  | m + 1, j, h1, h2, hm => by
    have := h.max
    have := h.len
    rw [bits_ReadRice_L3]
    by_cases hj : j < e
    · have e1 : decide ((j : Int) < (n : Int)) = true := by simp; omega
      have e2 : IntKind.i64.wrap ((j : Int) + 1) = ((j + 1 : Nat) : Int) := by rw [w64 (by omega) (by omega)]; simp
      have e3 : decide (65536 < IntKind.i64.wrap (((j + 1 : Nat) : Int) - (a : Int))) = false := by rw [w64 (by omega) (by omega)]; simp; omega
      simp only [e1, if_true]
      rw [bits_bit_eq N l n j h.byt (by omega) (by omega), hones j h1 hj]
      simp only [Option.bind_some, bits_ReadRice_J4, if_true, e2, e3, Bool.false_eq_true, if_false]
      exact ReadRice_L3_eq N l n h a p e he hen hlim hones hend m (j + 1) (by omega) (by omega) (by omega)
    · have hje : j = e := by omega
      subst hje
      rcases hend with rfl | hf
      · have e1 : decide ((j : Int) < (j : Int)) = false := by simp
        simp only [e1, Bool.false_eq_true, if_false, bits_ReadRice_J4]
      · by_cases hjn : j < n
        · have e1 : decide ((j : Int) < (n : Int)) = true := by simpa using hjn
          simp only [e1, if_true]
          rw [bits_bit_eq N l n j h.byt (by omega) (by omega), hf]
          simp only [Option.bind_some, bits_ReadRice_J4, Bool.false_eq_true, if_false]
        · have e1 : decide ((j : Int) < (n : Int)) = false := by simpa using hjn
          simp only [e1, Bool.false_eq_true, if_false, bits_ReadRice_J4]
theorem mul_or (x p y : Nat) (hy : y < 2 ^ p) : x * 2 ^ p ||| y = x * 2 ^ p + y := by
  rw [Nat.mul_comm, Nat.two_pow_add_eq_or_of_lt hy]
theorem ReadRice_eq (N : Nat) (hNN : 70000 ≤ N) (l : List Int) (n : Nat) (h : Ok l n) (a p e : Nat) (hp : p ≤ 32) (he : a ≤ e) (hen : e ≤ n) (hlim : e - a ≤ 65536) (hones : ∀ i, a ≤ i → i < e → bitAt l i = true) (hend : e = n ∨ bitAt l e = false) :
    bits_ReadRice N l (n : Int) (a : Int) (p : Int) = if n - e < 1 + p then some (0, 0, 1) else some ((((e - a) * 2 ^ p + num l (e + 1) p : Nat) : Int), ((e + 1 + p : Nat) : Int), 0) := by
  have := h.max
  have := h.len
  unfold bits_ReadRice bits_ReadRice_J1 bits_ReadRice_J2
  rw [bits_Valid_eq N l n h.byt (by omega) ⟨by omega, by omega⟩, h.valid]
  have e1 : decide ((p : Int) < 0) = false := by simp
  have e2 : decide (32 < (p : Int)) = false := by simp; omega
  have e3 : decide ((a : Int) < 0) = false := by simp
  have e4 : decide ((n : Int) < (a : Int)) = false := by simp; omega
  simp only [Option.bind_some, Bool.not_true, Bool.false_eq_true, if_false, e1, e2, e3, e4]
  rw [ReadRice_L3_eq N l n h a p e he hen hlim hones hend N a (by omega) (by omega) (by omega)]
  simp only [Option.bind_some]
  have e5 : IntKind.i64.wrap ((n : Int) - (e : Int)) = ((n - e : Nat) : Int) := by rw [w64 (by omega) (by omega)]; omega
  have e6 : IntKind.i64.wrap (1 + (p : Int)) = ((1 + p : Nat) : Int) := by rw [w64 (by omega) (by omega)]; simp
  rw [e5, e6]
  by_cases hs : n - e < 1 + p
  · have e7 : decide (((n - e : Nat) : Int) < ((1 + p : Nat) : Int)) = true := by simp only [decide_eq_true_eq]; omega
    simp only [e7, if_true, hs]
  · have e7 : decide (((n - e : Nat) : Int) < ((1 + p : Nat) : Int)) = false := by simp only [decide_eq_false_iff_not]; omega
    have e8 : IntKind.u64.wrap (IntKind.i64.wrap ((e : Int) - (a : Int))) = ((e - a : Nat) : Int) := by
      rw [w64 (by omega) (by omega), wu64 (by omega) (by omega)]; omega
    have e9 : IntKind.i64.wrap ((e : Int) + 1) = ((e + 1 : Nat) : Int) := by rw [w64 (by omega) (by omega)]; simp
    have e10 : IntKind.i64.wrap (((e + 1 : Nat) : Int) + (p : Int)) = ((e + 1 + p : Nat) : Int) := by rw [w64 (by omega) (by omega)]; simp
    simp only [e7, Bool.false_eq_true, if_false, hs, e8, e9, e10]
    rw [shl_nat (k := .u64) rfl (e - a) p]
    have hpow : (e - a) * 2 ^ p ≤ 65536 * 2 ^ 32 := Nat.mul_le_mul hlim (Nat.pow_le_pow_right (by omega) hp)
    have hlt : (e - a) * 2 ^ p < 2 ^ IntKind.u64.bits := Nat.lt_of_le_of_lt hpow (by decide)
    simp only [Option.bind_some, Nat.mod_eq_of_lt hlt]
    rw [bits_number_eq N l n (e + 1) p h.byt (by omega) (by omega) (by omega) (by omega)]
    simp only [Option.bind_some]
    have hnum := num_lt l (e + 1) p
    have hnum' : num l (e + 1) p < 2 ^ IntKind.u64.bits := Nat.lt_of_lt_of_le hnum (pow_le64 (by omega))
    rw [bits_or_nat (k := .u64) rfl _ _ hlt hnum', mul_or _ _ _ hnum]

/-! ### Codes one behind the other -/
theorem code_get (v p i : Nat) : (code v p).getD i false = if i < v / 2 ^ p then true else if i = v / 2 ^ p then false else (bitsOf v p).getD (i - (v / 2 ^ p + 1)) false := by
  unfold code
  rw [List.getD_eq_getElem?_getD, List.getElem?_append]
  simp only [List.length_replicate]
  split
  · rename_i h; simp [h]
  · rename_i h
    split
    · rename_i h2; subst h2; simp
    · rename_i h2
      rw [show i - v / 2 ^ p = (i - (v / 2 ^ p + 1)) + 1 by omega, List.getElem?_cons_succ, List.getD_eq_getElem?_getD]
/-- A code that stands in a string is read. -/
theorem ReadRice_code (N : Nat) (hNN : 70000 ≤ N) (l : List Int) (n : Nat) (h : Ok l n) (a v p : Nat) (hv : v < 2 ^ 64) (hp : p ≤ 32) (ho : v / 2 ^ p ≤ 65536) (hn : a + (v / 2 ^ p + 1 + p) ≤ n) (hc : ∀ i, i < v / 2 ^ p + 1 + p → bitAt l (a + i) = (code v p).getD i false) :
    bits_ReadRice N l (n : Int) (a : Int) (p : Int) = some ((v : Int), ((a + (v / 2 ^ p + 1 + p) : Nat) : Int), 0) := by
  have hcg := code_get v p
  have hdm : v / 2 ^ p * 2 ^ p + v % 2 ^ p = v := by rw [Nat.mul_comm]; exact Nat.div_add_mod v (2 ^ p)
  generalize hq : v / 2 ^ p = o at *
  have hr := ReadRice_eq N hNN l n h a p (a + o) hp (by omega) (by omega) (by omega) (fun i h1 h2 => by
    have := hc (i - a) (by omega)
    rw [show a + (i - a) = i by omega] at this
    rw [this, hcg, if_pos (by omega)]) (.inr (by rw [hc _ (by omega), hcg, if_neg (by omega), if_pos rfl]))
  rw [hr, if_neg (by omega)]
  have hnum : num l (a + o + 1) p = v % 2 ^ p := num_bitsOf _ _ _ _ (fun j hj => by
    have := hc (o + 1 + j) (by omega)
    rw [show a + o + 1 + j = a + (o + 1 + j) by omega, this, hcg, if_neg (by omega), if_neg (by omega)]
    congr 1; omega)
  rw [hnum, show a + o - a = o by omega, hdm]
  congr 3
  congr 1
  omega
end Go.Proofs.Ytbcmdojknonpgaa
