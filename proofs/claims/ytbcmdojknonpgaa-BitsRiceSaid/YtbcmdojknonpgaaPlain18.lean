import Derived.Test.YtbcmdojknonpgaaSh
import Derived.Test.YtbcmdojknonpgaaPlain0
set_option linter.unusedSimpArgs false
set_option linter.unusedVariables false
namespace Go.Proofs.Ytbcmdojknonpgaa
open Go Go.Vm

theorem tdiv8 (i : Nat) : Int.tdiv (i : Int) 8 = ((i / 8 : Nat) : Int) := tdiv_nat i 8
theorem tmod8 (i : Nat) : Int.tmod (i : Int) 8 = ((i % 8 : Nat) : Int) := tmod_nat i 8
/-! ### Bits of a list of bytes -/
def bitAt (l : List Int) (i : Nat) : Bool := (l.getD (i / 8) 0).toNat.testBit (7 - i % 8)
theorem bit_tab : ∀ x : Nat, x < 256 → ∀ r, r < 8 → (bits .and .u8 (x : Nat) ((128 / 2 ^ r : Nat) : Int) != 0) = x.testBit (7 - r) := by decide +kernel
theorem bits_bit_eq (N : Nat) (l : List Int) (n : Int) (i : Nat) (hb : Byt l) (hi : i < 8 * l.length) (hl : l.length ≤ 300000) : bits_bit N l n (i : Int) = some (bitAt l i) := by
  have h8 : i / 8 < l.length := by omega
  obtain ⟨x, hx, e⟩ := hb.get h8
  unfold bits_bit
  have e1 : IntKind.i64.wrap (Int.tdiv (i : Int) 8) = ((i / 8 : Nat) : Int) := by rw [tdiv8 i, w64 (by omega) (by omega)]
  rw [e1, idx_lt l h8, tmod8 i]
  simp only [Option.bind_some]
  have es : shr .u8 128 ((i % 8 : Nat) : Int) = some ((128 / 2 ^ (i % 8) : Nat) : Int) := shr_nat 128 (i % 8) (by decide)
  rw [es]
  simp only [Option.bind_some, e]
  rw [bit_tab x hx (i % 8) (Nat.mod_lt _ (by omega))]
  unfold bitAt
  rw [List.getD_eq_getElem?_getD, List.getElem?_eq_getElem h8, e]
  simp

/-- The number of k bits. -/
def num (l : List Int) (a : Nat) : Nat → Nat
  | 0 => 0
  | k + 1 => 2 * num l a k + (bitAt l (a + k)).toNat
theorem num_lt (l : List Int) (a : Nat) : ∀ k, num l a k < 2 ^ k
  | 0 => by simp [num]
  | k + 1 => by
    have := num_lt l a k
    have hb : (bitAt l (a + k)).toNat ≤ 1 := Bool.toNat_le _
    rw [num, Nat.pow_succ]; omega
theorem num_congr {l m : List Int} {a b : Nat} : ∀ {k : Nat}, (∀ j, j < k → bitAt l (a + j) = bitAt m (b + j)) → num l a k = num m b k
  | 0, _ => rfl
  | k + 1, h => by rw [num, num, num_congr (fun j hj => h j (by omega)), h k (by omega)]
theorem pow_le64 {k : Nat} (h : k ≤ 64) : 2 ^ k ≤ 2 ^ 64 := Nat.pow_le_pow_right (by omega) h
theorem or_one (x : Nat) : 2 * x ||| 1 = 2 * x + 1 := by
  have := Nat.two_pow_add_eq_or_of_lt (i := 1) (b := 1) (by omega) x
  simp only [Nat.pow_one] at this
  rw [← this]
theorem bits_number_L2_eq (N : Nat) (l : List Int) (n : Int) (a k : Nat) (hb : Byt l) (hk : k ≤ 64) (ha : a + k ≤ 8 * l.length) (hl : l.length ≤ 300000) :
    ∀ (m j : Nat), j ≤ k → k - j < m → bits_number_L2 N l n (a : Int) (k : Int) m (num l a j : Int) (j : Int) = some (num l a k : Int)
  | 0, j, _, hm => by omega
  | m + 1, j, hj, hm => by
    rw [bits_number_L2]
    by_cases hjk : j < k
    · have hlt := num_lt l a j
      have hp : 2 ^ j ≤ 2 ^ 63 := Nat.pow_le_pow_right (by omega) (by omega)
      have e1 : decide ((j : Int) < (k : Int)) = true := by simpa using hjk
      have es : shl .u64 (num l a j : Int) 1 = some ((num l a j * 2 ^ 1 % 2 ^ IntKind.u64.bits : Nat) : Int) := shl_nat rfl _ 1
      rw [e1, es]
      have e2 : num l a j * 2 ^ 1 % 2 ^ IntKind.u64.bits = 2 * num l a j := by
        show num l a j * 2 ^ 1 % 2 ^ 64 = _
        rw [Nat.mod_eq_of_lt (by omega)]; omega
      have e3 : IntKind.i64.wrap ((a : Int) + (j : Int)) = ((a + j : Nat) : Int) := by rw [w64 (by omega) (by omega)]; simp
      have e4 : IntKind.i64.wrap ((j : Int) + 1) = ((j + 1 : Nat) : Int) := by rw [w64 (by omega) (by omega)]; simp
      simp only [Option.bind_some, if_true, e2, e3]
      rw [bits_bit_eq N l n (a + j) hb (by omega) hl]
      simp only [Option.bind_some]
      have ih := bits_number_L2_eq N l n a k hb hk ha hl m (j + 1) hjk (by omega)
      have e5 : (num l a (j + 1) : Nat) = 2 * num l a j + (bitAt l (a + j)).toNat := rfl
      cases hbit : bitAt l (a + j) with
      | true =>
        simp only [if_true, bits_number_J3, e4]
        have eo : bits .or .u64 ((2 * num l a j : Nat) : Int) 1 = ((2 * num l a j ||| 1 : Nat) : Int) := bits_or_nat rfl (2 * num l a j) 1 (by show _ < 2 ^ 64; omega) (by decide)
        rw [eo, or_one]
        rw [hbit] at e5
        rw [show 2 * num l a j + 1 = num l a (j + 1) by rw [e5]; rfl]
        exact ih
      | false =>
        simp only [Bool.false_eq_true, if_false, bits_number_J3, e4]
        rw [hbit] at e5
        rw [show 2 * num l a j = num l a (j + 1) by rw [e5]; rfl]
        exact ih
    · have e1 : decide ((j : Int) < (k : Int)) = false := by simp; omega
      have : j = k := by omega
      subst this
      simp [e1]
theorem bits_number_eq (N : Nat) (l : List Int) (n : Int) (a k : Nat) (hb : Byt l) (hk : k ≤ 64) (ha : a + k ≤ 8 * l.length) (hl : l.length ≤ 300000) (hN : 100 ≤ N) : bits_number N l n (a : Int) (k : Int) = some (num l a k : Int) := by
  unfold bits_number bits_number_J1
  have := bits_number_L2_eq N l n a k hb hk ha hl N 0 (by omega) (by omega)
  simp only [num] at this
  rw [show ((0 : Nat) : Int) = 0 from rfl] at this
  rw [this]; rfl

/-! ### Valid strings -/
structure Ok (l : List Int) (n : Nat) : Prop where
  byt : Byt l
  len : l.length = (n + 7) / 8
  tail : ∀ i, n ≤ i → i < 8 * l.length → bitAt l i = false
  max : n ≤ 1600000
theorem tail_prog : ∀ b : Nat, b < 256 → ∀ k, k < 8 → (bits .and .u8 (b : Nat) ((255 / 2 ^ k : Nat) : Int) == 0) = ((List.range 8).all fun j => decide (j < k) || !(b.testBit (7 - j))) := by decide +kernel
def validB (l : List Int) (n : Int) : Bool := decide (0 ≤ n) && (decide (n ≤ 1600000) && (decide ((l.length : Int) = (n + 7) / 8) && decide (∀ i, i < 8 * l.length → n.toNat ≤ i → bitAt l i = false)))
theorem validB_ok {l : List Int} {n : Nat} (hb : Byt l) (h : validB l (n : Int) = true) : Ok l n := by
  simp only [validB, Bool.and_eq_true, decide_eq_true_eq] at h
  obtain ⟨h1, h2, h3, h4⟩ := h
  exact ⟨hb, by omega, fun i h5 h6 => h4 i h6 (by simpa using h5), by omega⟩
theorem Ok.valid {l : List Int} {n : Nat} (h : Ok l n) : validB l (n : Int) = true := by
  simp only [validB, Bool.and_eq_true, decide_eq_true_eq]
  have := h.len
  have := h.max
  exact ⟨by omega, by omega, by omega, fun i h1 h2 => h.tail i (by simpa using h2) h1⟩
theorem bits_Valid_eq (N : Nat) (l : List Int) (n : Int) (hb : Byt l) (hl : l.length ≤ 300000) (hn : -9223372036854775808 ≤ n ∧ n ≤ 9223372036854775807) : bits_Valid N l n = some (validB l n) := by
  unfold bits_Valid bits_Valid_J1
  by_cases h1 : n < 0
  · have : validB l n = false := by simp [validB]; omega
    simp [h1, this]
  have e1 : decide (n < 0) = false := by simpa using h1
  by_cases h2 : 1600000 < n
  · have : validB l n = false := by simp [validB]; omega
    simp [e1, h2, this]
  have e2 : decide (1600000 < n) = false := by simpa using h2
  obtain ⟨m, rfl⟩ := Int.eq_ofNat_of_zero_le (show 0 ≤ n by omega)
  have e3 : IntKind.i64.wrap (Int.tdiv (IntKind.i64.wrap ((m : Int) + 7)) 8) = (((m + 7) / 8 : Nat) : Int) := by
    have ea : IntKind.i64.wrap ((m : Int) + 7) = ((m + 7 : Nat) : Int) := by rw [w64 (by omega) (by omega)]; simp
    rw [ea, tdiv8 (m + 7), w64 (by omega) (by omega)]
  simp only [e1, e2, e3, Bool.false_eq_true, if_false]
  by_cases h3 : l.length = (m + 7) / 8
  · have e4 : ((l.length : Int) != (((m + 7) / 8 : Nat) : Int)) = false := by simp [h3]
    rw [e4, tmod8 m]
    simp only [Bool.false_eq_true, if_false]
    by_cases h4 : m % 8 = 0
    · have e5 : (((m % 8 : Nat) : Int) == 0) = true := by simp [h4]
      have : validB l (m : Int) = true := by
        simp only [validB, Bool.and_eq_true, decide_eq_true_eq]
        exact ⟨by omega, by omega, by omega, fun i h5 h6 => by simp at h6; omega⟩
      simp only [e5, if_true, this, bits_Valid_J2]
    · have e5 : (((m % 8 : Nat) : Int) == 0) = false := by simp; omega
      have hpos : 0 < l.length := by omega
      have e6 : IntKind.i64.wrap ((l.length : Int) - 1) = ((l.length - 1 : Nat) : Int) := by rw [w64 (by omega) (by omega)]; omega
      obtain ⟨x, hx, ex⟩ := hb.get (show l.length - 1 < l.length by omega)
      simp only [e5, Bool.false_eq_true, if_false, e6]
      rw [idx_lt l (by omega)]
      simp only [Option.bind_some]
      have es : shr .u8 255 ((m % 8 : Nat) : Int) = some ((255 / 2 ^ (m % 8) : Nat) : Int) := shr_nat 255 (m % 8) (by decide)
      rw [es]
      simp only [Option.bind_some, bits_Valid_J2, ex]
      rw [tail_prog x hx (m % 8) (Nat.mod_lt _ (by omega))]
      congr 1
      rw [Bool.eq_iff_iff]
      simp only [validB, Bool.and_eq_true, decide_eq_true_eq, List.all_eq_true, List.mem_range]
      have hbit : ∀ i, i / 8 = l.length - 1 → bitAt l i = x.testBit (7 - i % 8) := fun i hi => by
        unfold bitAt
        rw [hi, List.getD_eq_getElem?_getD, List.getElem?_eq_getElem (by omega), ex]; simp
      constructor
      · intro h
        refine ⟨by omega, by omega, by omega, fun i h5 h6 => ?_⟩
        simp only [Int.toNat_natCast] at h6
        rw [hbit i (by omega)]
        have := h (i % 8) (Nat.mod_lt _ (by omega))
        have hlt : decide (i % 8 < m % 8) = false := by simp; omega
        rw [hlt, Bool.false_or] at this
        simpa using this
      · rintro ⟨_, _, _, h⟩ j hj
        by_cases hjr : j < m % 8
        · simp [hjr]
        · have h7 := h (8 * (l.length - 1) + j) (by omega) (by simp; omega)
          rw [hbit _ (by omega), show (8 * (l.length - 1) + j) % 8 = j by omega] at h7
          simp [h7]
  · have e4 : ((l.length : Int) != (((m + 7) / 8 : Nat) : Int)) = true := by
      simp only [bne_iff_ne, ne_eq]
      omega
    have : validB l (m : Int) = false := by simp [validB]; omega
    simp only [e4, if_true, this]
end Go.Proofs.Ytbcmdojknonpgaa
