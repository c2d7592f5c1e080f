import Derived.Test.YtidkaiebgjbekaaDoorSh
import Derived.Test.YtidkaiebgjbekaaDoorPlain0
set_option linter.unusedSimpArgs false
set_option linter.unusedVariables false
namespace Go.Proofs.YtidkaiebgjbekaaDoor
open Go Go.Vm

/-! ### Numbers of bits -/
def nb (β : Nat → Bool) (a : Nat) : Nat → Nat
  | 0 => 0
  | k + 1 => 2 * nb β a k + (β (a + k)).toNat
theorem nb_lt (β : Nat → Bool) (a : Nat) : ∀ k, nb β a k < 2 ^ k
  | 0 => by simp [nb]
  | k + 1 => by
    have := nb_lt β a k
    have hb : (β (a + k)).toNat ≤ 1 := Bool.toNat_le _
    rw [nb, Nat.pow_succ]; omega
theorem nb_add (β : Nat → Bool) (a n : Nat) : ∀ k, nb β a (n + k) = nb β a n * 2 ^ k + nb β (a + n) k
  | 0 => by simp [nb]
  | k + 1 => by
    rw [← Nat.add_assoc, nb, nb_add β a n k, nb, Nat.pow_succ, Nat.add_assoc a n k]
    have : nb β a n * (2 ^ k * 2) = 2 * (nb β a n * 2 ^ k) := by rw [← Nat.mul_assoc, Nat.mul_comm]
    omega
theorem nb_div (β : Nat → Bool) (a n k : Nat) : nb β a (n + k) / 2 ^ k = nb β a n := by
  rw [nb_add, Nat.mul_comm, Nat.mul_add_div (Nat.two_pow_pos k), Nat.div_eq_of_lt (nb_lt β _ k), Nat.add_zero]
theorem nb_mod (β : Nat → Bool) (a n k : Nat) : nb β a (n + k) % 2 ^ k = nb β (a + n) k := by
  rw [nb_add, Nat.mul_comm, Nat.mul_add_mod, Nat.mod_eq_of_lt (nb_lt β _ k)]
theorem nb_congr {β γ : Nat → Bool} {a b : Nat} : ∀ {k : Nat}, (∀ j, j < k → β (a + j) = γ (b + j)) → nb β a k = nb γ b k
  | 0, _ => rfl
  | k + 1, h => by rw [nb, nb, nb_congr (fun j hj => h j (by omega)), h k (by omega)]
theorem nb_zero {β : Nat → Bool} {a : Nat} : ∀ {k : Nat}, (∀ j, j < k → β (a + j) = false) → nb β a k = 0
  | 0, _ => rfl
  | k + 1, h => by rw [nb, nb_zero (fun j hj => h j (by omega)), h k (by omega)]; rfl
theorem nb_eq_zero {β : Nat → Bool} {a : Nat} : ∀ {k : Nat}, nb β a k = 0 → ∀ j, j < k → β (a + j) = false
  | 0, _, j, hj => by omega
  | k + 1, h, j, hj => by
    rw [nb] at h
    by_cases e : j = k
    · subst e
      cases hb : β (a + j) with
      | false => rfl
      | true => rw [hb] at h; simp at h
    · exact nb_eq_zero (k := k) (by omega) j (by omega)
theorem nb_testBit (β : Nat → Bool) (a : Nat) : ∀ (k t : Nat), t < k → (nb β a k).testBit t = β (a + (k - 1 - t))
  | 0, t, h => by omega
  | k + 1, 0, h => by
    rw [nb, Nat.testBit_zero]
    cases hb : β (a + k) <;> simp [hb] <;> omega
  | k + 1, t + 1, h => by
    rw [nb, Nat.testBit_succ, show (2 * nb β a k + (β (a + k)).toNat) / 2 = nb β a k by have := Bool.toNat_le (β (a + k)); omega, nb_testBit β a k t (by omega)]
    congr 2
    omega
theorem or_add {a b k : Nat} (h : b < 2 ^ k) : a * 2 ^ k ||| b = a * 2 ^ k + b := by
  rw [Nat.mul_comm]; exact (Nat.two_pow_add_eq_or_of_lt h a).symm

/-- The bits of numbers of w bits. -/
def bit (w : Nat) (l : List Int) (i : Nat) : Bool := (l.getD (i / w) 0).toNat.testBit (w - 1 - i % w)
theorem bit_num (w : Nat) (hw : 0 < w) (l : List Int) (j : Nat) (h : (l.getD j 0).toNat < 2 ^ w) : nb (bit w l) (w * j) w = (l.getD j 0).toNat := by
  apply Nat.eq_of_testBit_eq
  intro t
  by_cases ht : t < w
  · rw [nb_testBit _ _ _ _ ht]
    unfold bit
    have e1 : (w * j + (w - 1 - t)) / w = j := by rw [Nat.mul_add_div hw, Nat.div_eq_of_lt (by omega)]; simp
    have e2 : (w * j + (w - 1 - t)) % w = w - 1 - t := by rw [Nat.mul_add_mod, Nat.mod_eq_of_lt (by omega)]
    rw [e1, e2]
    congr 1
    omega
  · rw [Nat.testBit_lt_two_pow (Nat.lt_of_lt_of_le (nb_lt _ _ _) (Nat.pow_le_pow_right (by omega) (by omega))), Nat.testBit_lt_two_pow (Nat.lt_of_lt_of_le h (Nat.pow_le_pow_right (by omega) (by omega)))]
theorem bit_far (w : Nat) (hw : 0 < w) (l : List Int) (i : Nat) (h : w * l.length ≤ i) : bit w l i = false := by
  have : l.length ≤ i / w := (Nat.le_div_iff_mul_le hw).2 (by rw [Nat.mul_comm]; exact h)
  unfold bit
  rw [List.getD_eq_getElem?_getD, List.getElem?_eq_none this]
  simp
/-- Numbers of w bits, q of them. -/
def Dg (w : Nat) (β : Nat → Bool) (q : Nat) : List Int := (List.range q).map fun i => ((nb β (w * i) w : Nat) : Int)
theorem Dg_succ (w : Nat) (β : Nat → Bool) (q : Nat) : Dg w β (q + 1) = Dg w β q ++ [((nb β (w * q) w : Nat) : Int)] := by simp [Dg, List.range_succ]
theorem Dg_len (w : Nat) (β : Nat → Bool) (q : Nat) : (Dg w β q).length = q := by simp [Dg]
theorem lim_big : 10000000 ≤ lim := by decide

/-! ### Convert -/
theorem Convert_L6_eq (N : Nat) (b : List Int) (β : Nat → Bool) (x10 x12 x15 : Int) (a0 t : Nat) (ht : t ≤ 12) (hat : a0 + t ≤ 5000) (hx : bits .or .u32 x15 (IntKind.u32.wrap x12) = ((nb β a0 t : Nat) : Int)) :
    ∀ (m q v : Nat), v < m → v ≤ t → a0 ≤ 5 * q → 5 * q + v = a0 + t → ∃ q' v', v' < 5 ∧ 5 * q' + v' = a0 + t ∧ a0 ≤ 5 * q' ∧ address_Convert_L6 N b x10 x12 x15 m (v : Int) (Dg 5 β q) = some ((v' : Int), Dg 5 β q')
  | 0, q, v, hm, _, _, _ => by omega
  | m + 1, q, v, hm, hv, ha, he => by
    rw [address_Convert_L6]
    by_cases h5 : 5 ≤ v
    · have e1 : decide ((5 : Int) ≤ (v : Int)) = true := by simp; omega
      have e2 : IntKind.i64.wrap ((v : Int) - 5) = ((v - 5 : Nat) : Int) := by rw [w64 (by omega) (by omega)]; omega
      have hlt := nb_lt β a0 t
      have hp : 2 ^ t ≤ 2 ^ 12 := Nat.pow_le_pow_right (by omega) ht
      have hlt2 : nb β a0 t < 2 ^ IntKind.u32.bits := by show _ < 2 ^ 32; omega
      simp only [e1, if_true, e2, hx]
      rw [shr_nat (k := .u32) _ _ hlt2]
      simp only [Option.bind_some]
      have es : t = (5 * q - a0 + 5) + (v - 5) := by omega
      have ed : nb β a0 t / 2 ^ (v - 5) = nb β a0 (5 * q - a0 + 5) := by
        have := nb_div β a0 (5 * q - a0 + 5) (v - 5)
        rw [← es] at this; exact this
      have em : nb β a0 (5 * q - a0 + 5) % 2 ^ 5 = nb β (5 * q) 5 := by
        rw [nb_mod]; congr 1; omega
      have e3 : bits .and .u8 (IntKind.u8.wrap ((nb β a0 t / 2 ^ (v - 5) : Nat) : Int)) 31 = ((nb β (5 * q) 5 : Nat) : Int) := by
        rw [ed]
        generalize nb β a0 (5 * q - a0 + 5) = y at em
        have hw8 : IntKind.u8.wrap (y : Int) = ((y % 256 : Nat) : Int) := by rw [IntKind.wrap_u8]; omega
        rw [hw8]
        have := bits_and_nat (k := .u8) rfl (y % 256) 31 (Nat.mod_lt _ (by decide)) (by decide)
        rw [show ((31 : Nat) : Int) = 31 from rfl] at this
        rw [this, show (31 : Nat) = 2 ^ 5 - 1 from rfl, Nat.and_two_pow_sub_one_eq_mod]
        congr 1
        omega
      have hlim := lim_big
      rw [e3, app_ok (by rw [Dg_len]; simp; omega), ← Dg_succ]
      simp only [Option.bind_some]
      exact Convert_L6_eq N b β x10 x12 x15 a0 t ht hat hx m (q + 1) (v - 5) (by omega) (by omega) (by omega) (by omega)
    · have e1 : decide ((5 : Int) ≤ (v : Int)) = false := by simp; omega
      simp only [e1, Bool.false_eq_true, if_false]
      exact ⟨q, v, by omega, he, ha, rfl⟩
theorem getD_lt {l : List Int} {j : Nat} (h : j < l.length) : l.getD j 0 = l[j] := by rw [List.getD_eq_getElem?_getD, List.getElem?_eq_getElem h]; rfl
/-- The bits so far and the next number. -/
theorem next_or {w n H x : Nat} (l : List Int) (a : Nat) {j : Nat} (hw : 0 < w) (hj : j < l.length) (ex : l[j] = (x : Int)) (hx : x < 2 ^ w) (he : a + n = w * j) (hH : H = nb (bit w l) a n) : H * 2 ^ w ||| x = nb (bit w l) a (n + w) := by
  have hg : (l.getD j 0).toNat = x := by rw [getD_lt hj, ex]; simp
  rw [nb_add, or_add hx, ← hH, he, bit_num w hw l j (by rw [hg]; exact hx), hg]
theorem Convert_L3_eq (N : Nat) (hNN : 70000 ≤ N) (b : List Int) (hb : Byt b) (hl : b.length ≤ 500) :
    ∀ (m j q v : Nat), b.length - j < m → j ≤ b.length → v < 5 → 5 * q + v = 8 * j → ∃ q' v', v' < 5 ∧ 5 * q' + v' = 8 * b.length ∧ address_Convert_L3 N b m ((nb (bit 8 b) (5 * q) v : Nat) : Int) (v : Int) (j : Int) (Dg 5 (bit 8 b) q) = some (((nb (bit 8 b) (5 * q') v' : Nat) : Int), (v' : Int), Dg 5 (bit 8 b) q')
  | 0, j, q, v, hm, _, _, _ => by omega
  | m + 1, j, q, v, hm, hj, hv, he => by
    rw [address_Convert_L3]
    by_cases hjl : j < b.length
    · have e1 : decide ((j : Int) < (b.length : Int)) = true := by simpa using hjl
      obtain ⟨x, hx, ex⟩ := hb.get hjl
      have hlt := nb_lt (bit 8 b) (5 * q) v
      have hp : 2 ^ v ≤ 2 ^ 4 := Nat.pow_le_pow_right (by omega) (by omega)
      have e2 : shl .u32 ((nb (bit 8 b) (5 * q) v : Nat) : Int) 8 = some ((nb (bit 8 b) (5 * q) v * 2 ^ 8 : Nat) : Int) := by
        have := shl_nat (k := .u32) rfl (nb (bit 8 b) (5 * q) v) 8
        rw [show nb (bit 8 b) (5 * q) v * 2 ^ 8 % 2 ^ IntKind.u32.bits = nb (bit 8 b) (5 * q) v * 2 ^ 8 from Nat.mod_eq_of_lt (by show _ < 2 ^ 32; omega)] at this
        exact this
      have e3 : IntKind.u32.wrap (x : Int) = (x : Int) := wu32 (by omega) (by omega)
      have e4 : IntKind.i64.wrap ((v : Int) + 8) = ((v + 8 : Nat) : Int) := by rw [w64 (by omega) (by omega)]; simp
      have e5 : IntKind.i64.wrap ((j : Int) + 1) = ((j + 1 : Nat) : Int) := by rw [w64 (by omega) (by omega)]; simp
      have hH := next_or (w := 8) (n := v) b (5 * q) (by omega) hjl ex hx he rfl
      have hor : bits .or .u32 ((nb (bit 8 b) (5 * q) v * 2 ^ 8 : Nat) : Int) (IntKind.u32.wrap (x : Int)) = ((nb (bit 8 b) (5 * q) (v + 8) : Nat) : Int) := by
        rw [e3, bits_or_nat (k := .u32) rfl _ _ (by show _ < 2 ^ 32; omega) (by show _ < 2 ^ 32; omega), hH]
      simp only [e1, if_true, idx_lt b hjl, Option.bind_some, e2, ex, e4]
      obtain ⟨q1, v1, h1, h2, h3, h4⟩ := Convert_L6_eq N b (bit 8 b) (j : Int) (x : Int) ((nb (bit 8 b) (5 * q) v * 2 ^ 8 : Nat) : Int) (5 * q) (v + 8) (by omega) (by omega) hor N q (v + 8) (by omega) (by omega) (by omega) rfl
      rw [h4]
      simp only [Option.bind_some, address_Convert_J5]
      have e6 : shl .u32 1 (v1 : Int) = some ((2 ^ v1 : Nat) : Int) := by
        have := shl_nat (k := .u32) rfl 1 v1
        have hp1 : 2 ^ v1 ≤ 2 ^ 4 := Nat.pow_le_pow_right (by omega) (by omega)
        rw [show 1 * 2 ^ v1 % 2 ^ IntKind.u32.bits = 2 ^ v1 by rw [Nat.one_mul]; exact Nat.mod_eq_of_lt (by show _ < 2 ^ 32; omega)] at this
        exact this
      rw [e6]
      simp only [Option.bind_some, hor, address_Convert_J4, e5]
      have hp1 : 2 ^ v1 ≤ 2 ^ 4 := Nat.pow_le_pow_right (by omega) (by omega)
      have hp0 := Nat.two_pow_pos v1
      have e7 : IntKind.u32.wrap (((2 ^ v1 : Nat) : Int) - 1) = ((2 ^ v1 - 1 : Nat) : Int) := by
        generalize 2 ^ v1 = z at *
        rw [wu32 (by omega) (by omega)]; omega
      have hlt2 := nb_lt (bit 8 b) (5 * q) (v + 8)
      have hp2 : 2 ^ (v + 8) ≤ 2 ^ 12 := Nat.pow_le_pow_right (by omega) (by omega)
      rw [e7, bits_and_nat (k := .u32) rfl _ _ (by show _ < 2 ^ 32; omega) (by show _ < 2 ^ 32; omega), Nat.and_two_pow_sub_one_eq_mod]
      have e8 : nb (bit 8 b) (5 * q) (v + 8) % 2 ^ v1 = nb (bit 8 b) (5 * q1) v1 := by
        have := nb_mod (bit 8 b) (5 * q) (v + 8 - v1) v1
        rw [show v + 8 - v1 + v1 = v + 8 by omega, show 5 * q + (v + 8 - v1) = 5 * q1 by omega] at this
        exact this
      rw [e8]
      exact Convert_L3_eq N hNN b hb hl m (j + 1) q1 v1 (by omega) (by omega) h1 (by omega)
    · have e1 : decide ((j : Int) < (b.length : Int)) = false := by simp; omega
      simp only [e1, Bool.false_eq_true, if_false]
      exact ⟨q, v, hv, by omega, rfl⟩
def digits (b : List Int) : List Int := Dg 5 (bit 8 b) ((8 * b.length + 4) / 5)
theorem Convert_eq (N : Nat) (hNN : 70000 ≤ N) (b : List Int) (hb : Byt b) (hl : b.length ≤ 500) : address_Convert N b = some (digits b) := by
  unfold address_Convert
  obtain ⟨q, v, h1, h2, h3⟩ := Convert_L3_eq N hNN b hb hl N 0 0 0 (by omega) (by omega) (by omega) (by omega)
  have h3' : address_Convert_L3 N b N 0 0 0 [] = some (((nb (bit 8 b) (5 * q) v : Nat) : Int), (v : Int), Dg 5 (bit 8 b) q) := h3
  rw [h3']
  simp only [Option.bind_some, address_Convert_J1]
  by_cases hv : v = 0
  · subst hv
    have : (8 * b.length + 4) / 5 = q := by omega
    simp [address_Convert_J2, digits, this]
  · have e1 : decide ((0 : Int) < (v : Int)) = true := by simp; omega
    have e2 : IntKind.i64.wrap (5 - (v : Int)) = ((5 - v : Nat) : Int) := by rw [w64 (by omega) (by omega)]; omega
    have hlt := nb_lt (bit 8 b) (5 * q) v
    have e4 : nb (bit 8 b) (5 * q) v * 2 ^ (5 - v) = nb (bit 8 b) (5 * q) 5 := by
      have := nb_add (bit 8 b) (5 * q) v (5 - v)
      rw [show v + (5 - v) = 5 by omega, nb_zero (k := 5 - v) (fun j _ => bit_far 8 (by omega) b _ (by omega))] at this
      omega
    have hlt5 := nb_lt (bit 8 b) (5 * q) 5
    have e3 : shl .u32 ((nb (bit 8 b) (5 * q) v : Nat) : Int) ((5 - v : Nat) : Int) = some ((nb (bit 8 b) (5 * q) 5 : Nat) : Int) := by
      have := shl_nat (k := .u32) rfl (nb (bit 8 b) (5 * q) v) (5 - v)
      rw [e4, show nb (bit 8 b) (5 * q) 5 % 2 ^ IntKind.u32.bits = nb (bit 8 b) (5 * q) 5 from Nat.mod_eq_of_lt (by show _ < 2 ^ 32; omega)] at this
      exact this
    have hlim := lim_big
    simp only [e1, if_true, e2, e3, Option.bind_some]
    rw [wu8 (by omega) (by omega), app_ok (by rw [Dg_len]; simp; omega), ← Dg_succ]
    have : (8 * b.length + 4) / 5 = q + 1 := by omega
    simp [address_Convert_J2, digits, this]
end Go.Proofs.YtidkaiebgjbekaaDoor
