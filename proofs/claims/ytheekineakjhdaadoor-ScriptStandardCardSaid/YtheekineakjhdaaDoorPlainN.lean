import Derived.Test.YtheekineakjhdaaDoorSh
import Derived.Test.YtheekineakjhdaaDoorPlain1
set_option linter.unusedSimpArgs false
set_option linter.unusedVariables false
namespace Go.Proofs.YtheekineakjhdaaDoor
open Go Go.Vm

abbrev NN : Nat := 70000
theorem Same_self (N : Nat) (l : List Int) : ref01_Same N l l = some true := by simp [ref01_Same]
/-! ### Numbers and items -/
def num8 : List Nat → Nat
  | [] => 0
  | x :: l => x + 256 * num8 l
theorem shl8 (x j : Nat) (hx : x < 256) (hj : j < 4) : shl .u32 (IntKind.u32.wrap (x : Int)) (IntKind.i64.wrap (8 * (j : Int))) = some ((2 ^ (8 * j) * x : Nat) : Int) := by
  have e1 : IntKind.u32.wrap (x : Int) = (x : Int) := wu32 (by omega) (by omega)
  have e2 : IntKind.i64.wrap (8 * (j : Int)) = ((8 * j : Nat) : Int) := by rw [w64 (by omega) (by omega)]; omega
  rw [e1, e2, shl_nat (k := .u32) rfl x (8 * j)]
  congr 2
  rw [Nat.mul_comm x]
  refine Nat.mod_eq_of_lt ?_
  match j, hj with
  | 0, _ => show 2 ^ (8 * 0) * x < 2 ^ 32; omega
  | 1, _ => show 2 ^ (8 * 1) * x < 2 ^ 32; omega
  | 2, _ => show 2 ^ (8 * 2) * x < 2 ^ 32; omega
  | 3, _ => show 2 ^ (8 * 3) * x < 2 ^ 32; omega
theorem pw {j : Nat} (hj : j < 4) : 2 ^ (8 * (j + 1)) ≤ 2 ^ 32 := Nat.pow_le_pow_right (by omega) (by omega)
theorem or8 (v x j : Nat) (hv : v < 2 ^ (8 * j)) (hx : x < 256) (hj : j < 4) : bits .or .u32 (v : Int) ((2 ^ (8 * j) * x : Nat) : Int) = ((v + 2 ^ (8 * j) * x : Nat) : Int) ∧ v + 2 ^ (8 * j) * x < 2 ^ (8 * (j + 1)) := by
  have hlt : v + 2 ^ (8 * j) * x < 2 ^ (8 * (j + 1)) := by
    have e : 2 ^ (8 * (j + 1)) = 2 ^ (8 * j) * 256 := by rw [Nat.mul_add, Nat.pow_add]
    rw [e]
    have : 2 ^ (8 * j) * (x + 1) ≤ 2 ^ (8 * j) * 256 := Nat.mul_le_mul_left _ (by omega)
    rw [Nat.mul_add, Nat.mul_one] at this
    omega
  have h32 := pw hj
  refine ⟨?_, hlt⟩
  rw [bits_or_nat (k := .u32) rfl v (2 ^ (8 * j) * x) (by show v < 2 ^ 32; omega) (by show _ < 2 ^ 32; omega), Nat.or_comm, ← Nat.two_pow_add_eq_or_of_lt hv, Nat.add_comm]
theorem Number_L3_eq (N : Nat) (b : List Nat) (hb : ∀ x ∈ b, x < 256) (hl : b.length ≤ 4) : ∀ (m j v : Nat), v < 2 ^ (8 * j) → b.length - j < m → j ≤ b.length → script_Number_L3 N (iN b) m (v : Int) (j : Int) = some ((v + 2 ^ (8 * j) * num8 (b.drop j) : Nat) : Int) ∧ ref08_Number_L3 N (iN b) m (v : Int) (j : Int) = some ((v + 2 ^ (8 * j) * num8 (b.drop j) : Nat) : Int)
  | 0, j, v, _, hm, _ => by omega
  | m + 1, j, v, hv, hm, hj => by
    rw [script_Number_L3, ref08_Number_L3, iN_len]
    by_cases hjl : j < b.length
    · have hx := hb _ (List.getElem_mem hjl)
      obtain ⟨o1, o2⟩ := or8 v b[j] j hv hx (by omega)
      obtain ⟨i1', i2'⟩ := Number_L3_eq N b hb hl m (j + 1) (v + 2 ^ (8 * j) * b[j]) o2 (by omega) (by omega)
      simp only [dT hjl, if_true, iN_idx b hjl, Option.bind_some, shl8 b[j] j hx (by omega), o1, i1 (show j ≤ 100000 by omega), i1', i2']
      rw [List.drop_eq_getElem_cons hjl]
      have : v + 2 ^ (8 * j) * b[j] + 2 ^ (8 * (j + 1)) * num8 (b.drop (j + 1)) = v + 2 ^ (8 * j) * num8 (b[j] :: b.drop (j + 1)) := by
        simp only [num8]
        have e : 2 ^ (8 * (j + 1)) = 2 ^ (8 * j) * 256 := by rw [Nat.mul_add, Nat.pow_add]
        rw [e, Nat.mul_add, Nat.mul_assoc, Nat.add_assoc]
      rw [this]; exact ⟨rfl, rfl⟩
    · have : b.drop j = [] := List.drop_eq_nil_of_le (by omega)
      simp only [dF hjl, Bool.false_eq_true, if_false, this, num8, Nat.mul_zero, Nat.add_zero, and_self]
theorem Number_good (N : Nat) (hN : 70000 ≤ N) (b : List Nat) (hb : ∀ x ∈ b, x < 256) (hl : b.length ≤ 4) (hlast : b[b.length - 1]? ≠ some 0) : script_Number N (iN b) = some (((num8 b : Nat) : Int), 0) ∧ ref08_Number N (iN b) = some (((num8 b : Nat) : Int), 0) := by
  obtain ⟨h1, h2⟩ := Number_L3_eq N b hb hl N 0 0 (by decide) (by omega) (by omega)
  simp only [Nat.mul_zero, Nat.pow_zero, Nat.one_mul, Nat.zero_add, List.drop_zero, show ((0 : Nat) : Int) = 0 from rfl] at h1 h2
  unfold script_Number ref08_Number
  rw [iN_len]
  have e1 : decide (4 < (b.length : Int)) = false := by simp; omega
  simp only [e1, Bool.false_eq_true, if_false]
  by_cases h0 : 0 < b.length
  · have e2 : decide (0 < (b.length : Int)) = true := by simp; omega
    have e3 : IntKind.i64.wrap ((b.length : Int) - 1) = ((b.length - 1 : Nat) : Int) := by rw [w64 (by omega) (by omega)]; omega
    have hlt : b.length - 1 < b.length := by omega
    have e4 : (((b[b.length - 1] : Nat) : Int) == 0) = false := by
      rw [List.getElem?_eq_getElem hlt] at hlast
      have : b[b.length - 1] ≠ 0 := fun hz => hlast (by rw [hz])
      simp only [beq_eq_false_iff_ne, ne_eq]; omega
    simp only [e2, if_true, e3, iN_idx b (show b.length - 1 < b.length by omega), Option.bind_some, e4, script_Number_J1, ref08_Number_J1, Bool.false_eq_true, if_false, h1, h2, script_Number_J2, ref08_Number_J2, and_self]
  · have e2 : decide (0 < (b.length : Int)) = false := decide_eq_false (by omega)
    simp only [e2, Bool.false_eq_true, if_false, script_Number_J1, ref08_Number_J1, h1, h2, Option.bind_some, script_Number_J2, ref08_Number_J2, and_self]
theorem Number_both (N : Nat) (hN : 70000 ≤ N) (b : List Nat) (hb : ∀ x ∈ b, x < 256) : ∃ r, script_Number N (iN b) = some r ∧ ref08_Number N (iN b) = some r := by
  by_cases hl : b.length ≤ 4
  · by_cases hlast : b[b.length - 1]? ≠ some 0
    · exact ⟨_, Number_good N hN b hb hl hlast⟩
    · have hz' : b[b.length - 1]? = some 0 := Classical.byContradiction hlast
      obtain ⟨hlt, hz⟩ := List.getElem?_eq_some_iff.1 hz'
      have h0 : 0 < b.length := by omega
      have e1 : decide (4 < (b.length : Int)) = false := by simp; omega
      have e2 : decide (0 < (b.length : Int)) = true := by simp; omega
      have e3 : IntKind.i64.wrap ((b.length : Int) - 1) = ((b.length - 1 : Nat) : Int) := by rw [w64 (by omega) (by omega)]; omega
      unfold script_Number ref08_Number
      rw [iN_len]
      simp only [e1, e2, if_true, Bool.false_eq_true, if_false, e3, iN_idx b (show b.length - 1 < b.length by omega), Option.bind_some, hz, script_Number_J1, ref08_Number_J1]
      exact ⟨_, rfl, rfl⟩
  · have e1 : decide (4 < (b.length : Int)) = true := by simp; omega
    unfold script_Number ref08_Number
    rw [iN_len]
    simp only [e1, if_true, script_Number_J1, ref08_Number_J1]
    exact ⟨_, rfl, rfl⟩
def item8 : Nat → Nat → List Nat
  | 0, _ => []
  | k + 1, n => if n = 0 then [] else n % 256 :: item8 k (n / 256)
theorem item8_lt : ∀ (k n : Nat), ∀ x ∈ item8 k n, x < 256
  | 0, n, x, hx => by simp [item8] at hx
  | k + 1, n, x, hx => by
    simp only [item8] at hx
    split at hx
    · cases hx
    · rcases List.mem_cons.1 hx with rfl | hx
      · omega
      · exact item8_lt k _ x hx
theorem item8_len : ∀ (k n : Nat), (item8 k n).length ≤ k
  | 0, n => by simp [item8]
  | k + 1, n => by
    simp only [item8]
    split
    · simp
    · have := item8_len k (n / 256); simp; omega
theorem item8_num : ∀ (k n : Nat), n < 256 ^ k → num8 (item8 k n) = n
  | 0, n, h => by simp at h; subst h; rfl
  | k + 1, n, h => by
    simp only [item8]
    split
    · rename_i h0; subst h0; rfl
    · rw [num8, item8_num k (n / 256) (by rw [Nat.pow_succ] at h; omega)]; omega
theorem item8_last : ∀ (k n : Nat), n < 256 ^ k → (item8 k n)[(item8 k n).length - 1]? ≠ some 0
  | 0, n, _ => by simp [item8]
  | k + 1, n, hn => by
    have hn' : n / 256 < 256 ^ k := by rw [Nat.pow_succ] at hn; omega
    by_cases h0 : n = 0
    · subst h0; simp [item8]
    · have e : item8 (k + 1) n = n % 256 :: item8 k (n / 256) := by simp only [item8]; rw [if_neg h0]
      rw [e, List.length_cons, Nat.add_sub_cancel]
      have ih := item8_last k (n / 256) hn'
      cases hi : item8 k (n / 256) with
      | nil =>
        have := item8_num k (n / 256) hn'
        rw [hi] at this
        simp only [num8] at this
        simp only [List.length_nil, List.getElem?_cons_zero, ne_eq, Option.some.injEq]
        omega
      | cons a l =>
        rw [hi] at ih
        simpa using ih
theorem Item_L2_eq (N : Nat) : ∀ (k v m : Nat) (l : List Nat), v < 256 ^ k → v < 2 ^ 32 → k < m → l.length + k ≤ 1000 → script_Item_L2 N m (v : Int) (iN l) = some (iN (l ++ item8 k v)) ∧ ref08_Item_L2 N m (v : Int) (iN l) = some (iN (l ++ item8 k v))
  | k, v, m, l, hv, h32, hm, hl => by
    obtain ⟨m, rfl⟩ : ∃ q, m = q + 1 := ⟨m - 1, by omega⟩
    rw [script_Item_L2, ref08_Item_L2]
    by_cases h0 : v = 0
    · subst h0
      have : item8 k 0 = [] := by cases k <;> simp [item8]
      simp [this]
    · have e1 : decide (0 < (v : Int)) = true := by simp; omega
      cases k with
      | zero => simp at hv; omega
      | succ k =>
        have e2 : IntKind.u8.wrap (v : Int) = ((v % 256 : Nat) : Int) := by rw [IntKind.wrap_u8]; omega
        have e3 : shr .u32 (v : Int) 8 = some ((v / 256 : Nat) : Int) := shr_nat (k := .u32) v 8 h32
        have e4 : IntKind.u32.wrap (Int.tdiv (v : Int) 256) = ((v / 256 : Nat) : Int) := by
          rw [show Int.tdiv (v : Int) 256 = ((v / 256 : Nat) : Int) from tdiv_nat v 256, wu32 (by omega) (by omega)]
        obtain ⟨i1', i2'⟩ := Item_L2_eq N k (v / 256) m (l ++ [v % 256]) (by rw [Nat.pow_succ] at hv; omega) (by omega) (by omega) (by simp; omega)
        have e5 : item8 (k + 1) v = v % 256 :: item8 k (v / 256) := by simp only [item8]; rw [if_neg h0]
        simp only [e1, if_true, e2, app1 (l := l) (x := v % 256) (by omega), Option.bind_some, e3, e4, i1', i2', e5, List.append_assoc, List.cons_append, List.nil_append, and_self]
theorem Item_both (N : Nat) (hN : 70000 ≤ N) (v : Nat) (hv : v < 2 ^ 32) : script_Item N (v : Int) = some (iN (item8 4 v)) ∧ ref08_Item N (v : Int) = some (iN (item8 4 v)) := by
  obtain ⟨h1, h2⟩ := Item_L2_eq N 4 v N [] (by omega) hv (by omega) (by simp)
  simp only [List.nil_append, show iN [] = [] from rfl] at h1 h2
  simp only [script_Item, ref08_Item, h1, h2, Option.bind_some, script_Item_J1, ref08_Item_J1, and_self]
theorem ScriptNumbers_true (b : List Int) (vn : Int) (hb : Byt b) (h0 : 0 ≤ vn) (h1 : vn < 2 ^ 32) : law08_ScriptNumbers NN b vn = some true := by
  obtain ⟨l, rfl, hl⟩ := byt_nat hb
  obtain ⟨v, rfl⟩ : ∃ v : Nat, vn = (v : Int) := ⟨vn.toNat, by omega⟩
  have hv : v < 2 ^ 32 := by omega
  obtain ⟨r, n1, n2⟩ := Number_both NN (Nat.le_refl _) l hl
  obtain ⟨k1, k2⟩ := Item_both NN (Nat.le_refl _) v hv
  have g := (Number_good NN (Nat.le_refl _) (item8 4 v) (item8_lt 4 v) (item8_len 4 v) (item8_last 4 v (by omega))).1
  rw [item8_num 4 v (by omega)] at g
  simp only [law08_ScriptNumbers, law08_sane, Option.bind_some, Bool.not_true, Bool.false_eq_true, if_false, n1, n2, k1, k2, g, beq_self_eq_true, if_true, Same_self, law08_ScriptNumbers_J1]
end Go.Proofs.YtheekineakjhdaaDoor
