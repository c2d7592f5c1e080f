import Derived.Test.YtidkaiebgjbekaaDoorPlain27
set_option linter.unusedSimpArgs false
set_option linter.unusedVariables false
namespace Go.Proofs.YtidkaiebgjbekaaDoor
open Go Go.Vm

/-! ### The reference's Convert -/
theorem and_one8 (x : Nat) (hx : x < 256) : bits .and .u8 (x : Int) 1 = ((x % 2 : Nat) : Int) := by
  have := bits_and_nat (k := .u8) rfl x 1 hx (by decide)
  rw [show ((1 : Nat) : Int) = 1 from rfl] at this
  rw [this, show (1 : Nat) = 2 ^ 1 - 1 from rfl, Nat.and_two_pow_sub_one_eq_mod]
theorem bit_shr (w : Nat) (hw : 0 < w) (l : List Int) (i x : Nat) (h : i / w < l.length) (e : l[i / w] = (x : Int)) : x / 2 ^ (w - 1 - i % w) % 2 = (bit w l i).toNat := by
  unfold bit
  rw [getD_lt h, e, Int.toNat_natCast, Nat.testBit_eq_decide_div_mod_eq]
  have : x / 2 ^ (w - 1 - i % w) % 2 < 2 := Nat.mod_lt _ (by omega)
  by_cases hh : x / 2 ^ (w - 1 - i % w) % 2 = 1
  · simp [hh]
  · have h0 : x / 2 ^ (w - 1 - i % w) % 2 = 0 := by omega
    simp [h0]
theorem or_bit (d : Nat) (c : Bool) : 2 * d ||| c.toNat = 2 * d + c.toNat := by
  have := or_add (a := d) (b := c.toNat) (k := 1) (by have := Bool.toNat_le c; omega)
  rw [Nat.pow_one, Nat.mul_comm] at this
  exact this
theorem ref27_Convert_L5_eq (N : Nat) (b : List Int) (hb : Byt b) (hl : b.length ≤ 500) (a : Nat) (out : List Int) (ha : a ≤ 5000) :
    ∀ (m k : Nat), 5 - k < m → k ≤ 5 → ref27_Convert_L5 N b (a : Int) out m ((nb (bit 8 b) a k : Nat) : Int) ((a + k : Nat) : Int) = some ((nb (bit 8 b) a 5 : Nat) : Int)
  | 0, k, hm, _ => by omega
  | m + 1, k, hm, hk => by
    rw [ref27_Convert_L5]
    have e0 : IntKind.i64.wrap ((a : Int) + 5) = ((a + 5 : Nat) : Int) := by rw [w64 (by omega) (by omega)]; simp
    have eL : IntKind.i64.wrap (8 * (b.length : Int)) = ((8 * b.length : Nat) : Int) := by rw [w64 (by omega) (by omega)]; simp
    rw [e0, eL]
    by_cases hk5 : k < 5
    · have e1 : decide (((a + k : Nat) : Int) < ((a + 5 : Nat) : Int)) = true := by simp only [decide_eq_true_eq]; omega
      have hlt := nb_lt (bit 8 b) a k
      have hp : 2 ^ k ≤ 2 ^ 4 := Nat.pow_le_pow_right (by omega) (by omega)
      have e2 : shl .u8 ((nb (bit 8 b) a k : Nat) : Int) 1 = some ((2 * nb (bit 8 b) a k : Nat) : Int) := by
        have := shl_nat (k := .u8) rfl (nb (bit 8 b) a k) 1
        rw [show nb (bit 8 b) a k * 2 ^ 1 % 2 ^ IntKind.u8.bits = 2 * nb (bit 8 b) a k by
          rw [Nat.mod_eq_of_lt (by show _ < 2 ^ 8; omega)]; omega] at this
        exact this
      have e3 : IntKind.i64.wrap (((a + k : Nat) : Int) + 1) = ((a + (k + 1) : Nat) : Int) := by rw [w64 (by omega) (by omega)]; omega
      simp only [e1, if_true, e2, Option.bind_some]
      have hrec := ref27_Convert_L5_eq N b hb hl a out ha m (k + 1) (by omega) (by omega)
      rw [nb] at hrec
      by_cases hi : a + k < 8 * b.length
      · have e4 : decide (((a + k : Nat) : Int) < ((8 * b.length : Nat) : Int)) = true := by simp only [decide_eq_true_eq]; omega
        have h8 : (a + k) / 8 < b.length := by omega
        obtain ⟨x, hx, ex⟩ := hb.get h8
        have e5 : IntKind.i64.wrap (Int.tdiv ((a + k : Nat) : Int) 8) = (((a + k) / 8 : Nat) : Int) := by rw [show Int.tdiv ((a + k : Nat) : Int) 8 = (((a + k) / 8 : Nat) : Int) from tdiv_nat _ 8, w64 (by omega) (by omega)]
        have e6 : IntKind.u64.wrap (IntKind.i64.wrap (7 - Int.tmod ((a + k : Nat) : Int) 8)) = ((7 - (a + k) % 8 : Nat) : Int) := by
          rw [show Int.tmod ((a + k : Nat) : Int) 8 = (((a + k) % 8 : Nat) : Int) from tmod_nat _ 8, w64 (by omega) (by omega), wu64 (by omega) (by omega)]; omega
        simp only [e4, if_true, e5, e6, idx_lt b h8, Option.bind_some, ex]
        rw [shr_nat (k := .u8) x _ hx]
        have hdx : x / 2 ^ (7 - (a + k) % 8) < 256 := Nat.lt_of_le_of_lt (Nat.div_le_self _ _) hx
        simp only [Option.bind_some, ref27_Convert_J6, e3]
        rw [and_one8 _ hdx, bit_shr 8 (by omega) b (a + k) x h8 ex, bits_or_nat (k := .u8) rfl _ _ (by show _ < 2 ^ 8; omega) (by have := Bool.toNat_le (bit 8 b (a + k)); show _ < 2 ^ 8; omega), or_bit]
        exact hrec
      · have e4 : decide (((a + k : Nat) : Int) < ((8 * b.length : Nat) : Int)) = false := by simp only [decide_eq_false_iff_not]; omega
        simp only [e4, Bool.false_eq_true, if_false, ref27_Convert_J6, e3]
        rw [bit_far 8 (by omega) b (a + k) (by omega)] at hrec
        exact hrec
    · have e1 : decide (((a + k : Nat) : Int) < ((a + 5 : Nat) : Int)) = false := by simp only [decide_eq_false_iff_not]; omega
      have : k = 5 := by omega
      subst this
      simp only [e1, Bool.false_eq_true, if_false]
theorem ref27_Convert_L2_eq (N : Nat) (hNN : 70000 ≤ N) (b : List Int) (hb : Byt b) (hl : b.length ≤ 500) :
    ∀ (m q : Nat), (8 * b.length + 4) / 5 - q < m → q ≤ (8 * b.length + 4) / 5 → ref27_Convert_L2 N b m ((5 * q : Nat) : Int) (Dg 5 (bit 8 b) q) = some (digits b)
  | 0, q, hm, _ => by omega
  | m + 1, q, hm, hq => by
    rw [ref27_Convert_L2]
    have eL : IntKind.i64.wrap (8 * (b.length : Int)) = ((8 * b.length : Nat) : Int) := by rw [w64 (by omega) (by omega)]; simp
    rw [eL]
    by_cases hlt : 5 * q < 8 * b.length
    · have e1 : decide (((5 * q : Nat) : Int) < ((8 * b.length : Nat) : Int)) = true := by simp only [decide_eq_true_eq]; omega
      have e3 : IntKind.i64.wrap (((5 * q : Nat) : Int) + 5) = ((5 * (q + 1) : Nat) : Int) := by rw [w64 (by omega) (by omega)]; omega
      have h5 := ref27_Convert_L5_eq N b hb hl (5 * q) (Dg 5 (bit 8 b) q) (by omega) N 0 (by omega) (by omega)
      have h5' : ref27_Convert_L5 N b ((5 * q : Nat) : Int) (Dg 5 (bit 8 b) q) N 0 ((5 * q : Nat) : Int) = some ((nb (bit 8 b) (5 * q) 5 : Nat) : Int) := h5
      have hlim := lim_big
      simp only [e1, if_true, h5', Option.bind_some, ref27_Convert_J4]
      rw [app_ok (by rw [Dg_len]; simp; omega), ← Dg_succ]
      simp only [Option.bind_some, ref27_Convert_J3, e3]
      exact ref27_Convert_L2_eq N hNN b hb hl m (q + 1) (by omega) (by omega)
    · have e1 : decide (((5 * q : Nat) : Int) < ((8 * b.length : Nat) : Int)) = false := by simp only [decide_eq_false_iff_not]; omega
      have : q = (8 * b.length + 4) / 5 := by omega
      simp only [e1, Bool.false_eq_true, if_false, digits, ← this]
theorem ref27_Convert_eq (N : Nat) (hNN : 70000 ≤ N) (b : List Int) (hb : Byt b) (hl : b.length ≤ 500) : ref27_Convert N b = some (digits b) := by
  unfold ref27_Convert
  have h := ref27_Convert_L2_eq N hNN b hb hl N 0 (by omega) (by omega)
  have h' : ref27_Convert_L2 N b N 0 [] = some (digits b) := h
  rw [h']
  rfl
theorem digits_byt (b : List Int) : Byt (digits b) := by
  intro x hx
  simp only [digits, Dg, List.mem_map] at hx
  obtain ⟨i, _, rfl⟩ := hx
  have := nb_lt (bit 8 b) (5 * i) 5
  omega
theorem digits_len (b : List Int) : (digits b).length = (8 * b.length + 4) / 5 := Dg_len ..

/-! ### Back -/
/-- All digits are below 32. -/
def fiveB (d : List Int) : Bool := d.all fun x => decide (x ≤ 31)
theorem fiveB_drop {d : List Int} {j : Nat} (h : j < d.length) : fiveB (d.drop j) = (decide (d[j] ≤ 31) && fiveB (d.drop (j + 1))) := by rw [List.drop_eq_getElem_cons h]; rfl
theorem Back_L6_eq (N : Nat) (d : List Int) (hl : d.length ≤ 500) : ∀ (m j : Nat), d.length - j < m → j ≤ d.length → address_Back_L6 N d m (j : Int) = some (if fiveB (d.drop j) then .brk () else .ret ([], 5))
  | 0, j, hm, _ => by omega
  | m + 1, j, hm, hj => by
    rw [address_Back_L6]
    by_cases hjl : j < d.length
    · have e1 : decide ((j : Int) < (d.length : Int)) = true := by simpa using hjl
      have e3 : IntKind.i64.wrap ((j : Int) + 1) = ((j + 1 : Nat) : Int) := by rw [w64 (by omega) (by omega)]; simp
      simp only [e1, if_true, idx_lt d hjl, Option.bind_some, e3]
      rw [Back_L6_eq N d hl m (j + 1) (by omega) (by omega), fiveB_drop hjl]
      by_cases hx : 31 < d[j]
      · have a1 : decide (31 < d[j]) = true := decide_eq_true hx
        have a2 : decide (d[j] ≤ 31) = false := decide_eq_false (by omega)
        simp only [a1, a2, if_true, Bool.false_and, Bool.false_eq_true, if_false]
      · have a1 : decide (31 < d[j]) = false := decide_eq_false hx
        have a2 : decide (d[j] ≤ 31) = true := decide_eq_true (by omega)
        simp only [a1, a2, Bool.true_and, Bool.false_eq_true, if_false]
    · have e1 : decide ((j : Int) < (d.length : Int)) = false := by simp; omega
      rw [List.drop_eq_nil_of_le (by omega)]
      simp only [e1, Bool.false_eq_true, if_false]
      rfl
theorem ref27_Back_L5_eq (N : Nat) (d : List Int) (hl : d.length ≤ 500) : ∀ (m j : Nat), d.length - j < m → j ≤ d.length → ref27_Back_L5 N d m (j : Int) = some (if fiveB (d.drop j) then .brk () else .ret ([], 5))
  | 0, j, hm, _ => by omega
  | m + 1, j, hm, hj => by
    rw [ref27_Back_L5]
    by_cases hjl : j < d.length
    · have e1 : decide ((j : Int) < (d.length : Int)) = true := by simpa using hjl
      have e3 : IntKind.i64.wrap ((j : Int) + 1) = ((j + 1 : Nat) : Int) := by rw [w64 (by omega) (by omega)]; simp
      simp only [e1, if_true, idx_lt d hjl, Option.bind_some, e3]
      rw [ref27_Back_L5_eq N d hl m (j + 1) (by omega) (by omega), fiveB_drop hjl]
      by_cases hx : 31 < d[j]
      · have a1 : decide (31 < d[j]) = true := decide_eq_true hx
        have a2 : decide (d[j] ≤ 31) = false := decide_eq_false (by omega)
        simp only [a1, a2, if_true, Bool.false_and, Bool.false_eq_true, if_false]
      · have a1 : decide (31 < d[j]) = false := decide_eq_false hx
        have a2 : decide (d[j] ≤ 31) = true := decide_eq_true (by omega)
        simp only [a1, a2, Bool.true_and, Bool.false_eq_true, if_false]
    · have e1 : decide ((j : Int) < (d.length : Int)) = false := by simp; omega
      rw [List.drop_eq_nil_of_le (by omega)]
      simp only [e1, Bool.false_eq_true, if_false]
      rfl
theorem five_get {d : List Int} (hb : Byt d) (h5 : fiveB d = true) {j : Nat} (hj : j < d.length) : ∃ x : Nat, x < 32 ∧ d[j] = (x : Int) := by
  obtain ⟨x, _, ex⟩ := hb.get hj
  have := List.all_eq_true.1 h5 d[j] (List.getElem_mem hj)
  simp only [decide_eq_true_eq] at this
  exact ⟨x, by omega, ex⟩
theorem Back_L4_eq (N : Nat) (d : List Int) (hb : Byt d) (h5 : fiveB d = true) (hl : d.length ≤ 500) :
    ∀ (m j q v : Nat), d.length - j < m → j ≤ d.length → v < 8 → 8 * q + v = 5 * j → ∃ q' v', v' < 8 ∧ 8 * q' + v' = 5 * d.length ∧ address_Back_L4 N d m ((nb (bit 5 d) (8 * q) v : Nat) : Int) (v : Int) (j : Int) (Dg 8 (bit 5 d) q) = some (((nb (bit 5 d) (8 * q') v' : Nat) : Int), (v' : Int), Dg 8 (bit 5 d) q')
  | 0, j, q, v, hm, _, _, _ => by omega
  | m + 1, j, q, v, hm, hj, hv, he => by
    rw [address_Back_L4]
    by_cases hjl : j < d.length
    · have e1 : decide ((j : Int) < (d.length : Int)) = true := by simpa using hjl
      obtain ⟨x, hx, ex⟩ := five_get hb h5 hjl
      have hlt := nb_lt (bit 5 d) (8 * q) v
      have hp : 2 ^ v ≤ 2 ^ 7 := Nat.pow_le_pow_right (by omega) (by omega)
      have e2 : shl .u32 ((nb (bit 5 d) (8 * q) v : Nat) : Int) 5 = some ((nb (bit 5 d) (8 * q) v * 2 ^ 5 : Nat) : Int) := by
        have := shl_nat (k := .u32) rfl (nb (bit 5 d) (8 * q) v) 5
        rw [show nb (bit 5 d) (8 * q) v * 2 ^ 5 % 2 ^ IntKind.u32.bits = nb (bit 5 d) (8 * q) v * 2 ^ 5 from Nat.mod_eq_of_lt (by show _ < 2 ^ 32; omega)] at this
        exact this
      have e3 : IntKind.u32.wrap (x : Int) = (x : Int) := wu32 (by omega) (by omega)
      have e4 : IntKind.i64.wrap ((v : Int) + 5) = ((v + 5 : Nat) : Int) := by rw [w64 (by omega) (by omega)]; simp
      have e5 : IntKind.i64.wrap ((j : Int) + 1) = ((j + 1 : Nat) : Int) := by rw [w64 (by omega) (by omega)]; simp
      have hH := next_or (w := 5) (n := v) d (8 * q) (by omega) hjl ex hx he rfl
      have hor : bits .or .u32 ((nb (bit 5 d) (8 * q) v * 2 ^ 5 : Nat) : Int) (IntKind.u32.wrap (x : Int)) = ((nb (bit 5 d) (8 * q) (v + 5) : Nat) : Int) := by
        rw [e3, bits_or_nat (k := .u32) rfl _ _ (by show _ < 2 ^ 32; omega) (by show _ < 2 ^ 32; omega), hH]
      simp only [e1, if_true, idx_lt d hjl, Option.bind_some, e2, ex, e4, hor]
      by_cases h8 : 8 ≤ v + 5
      · have e6 : decide ((8 : Int) ≤ ((v + 5 : Nat) : Int)) = true := by simp only [decide_eq_true_eq]; omega
        have e7 : IntKind.i64.wrap (((v + 5 : Nat) : Int) - 8) = ((v + 5 - 8 : Nat) : Int) := by rw [w64 (by omega) (by omega)]; omega
        have hlt2 := nb_lt (bit 5 d) (8 * q) (v + 5)
        have hp2 : 2 ^ (v + 5) ≤ 2 ^ 12 := Nat.pow_le_pow_right (by omega) (by omega)
        have hlt8 := nb_lt (bit 5 d) (8 * q) 8
        have ed : nb (bit 5 d) (8 * q) (v + 5) / 2 ^ (v + 5 - 8) = nb (bit 5 d) (8 * q) 8 := by
          have := nb_div (bit 5 d) (8 * q) 8 (v + 5 - 8)
          rw [show 8 + (v + 5 - 8) = v + 5 by omega] at this; exact this
        have em : nb (bit 5 d) (8 * q) (v + 5) % 2 ^ (v + 5 - 8) = nb (bit 5 d) (8 * (q + 1)) (v + 5 - 8) := by
          have := nb_mod (bit 5 d) (8 * q) 8 (v + 5 - 8)
          rw [show 8 + (v + 5 - 8) = v + 5 by omega] at this; exact this
        have e9 : shl .u32 1 ((v + 5 - 8 : Nat) : Int) = some ((2 ^ (v + 5 - 8) : Nat) : Int) := by
          have := shl_nat (k := .u32) rfl 1 (v + 5 - 8)
          have hp1 : 2 ^ (v + 5 - 8) ≤ 2 ^ 4 := Nat.pow_le_pow_right (by omega) (by omega)
          rw [show 1 * 2 ^ (v + 5 - 8) % 2 ^ IntKind.u32.bits = 2 ^ (v + 5 - 8) by rw [Nat.one_mul]; exact Nat.mod_eq_of_lt (by show _ < 2 ^ 32; omega)] at this
          exact this
        have hp1 : 2 ^ (v + 5 - 8) ≤ 2 ^ 4 := Nat.pow_le_pow_right (by omega) (by omega)
        have hp0 := Nat.two_pow_pos (v + 5 - 8)
        have e10 : IntKind.u32.wrap (((2 ^ (v + 5 - 8) : Nat) : Int) - 1) = ((2 ^ (v + 5 - 8) - 1 : Nat) : Int) := by
          generalize 2 ^ (v + 5 - 8) = z at *
          rw [wu32 (by omega) (by omega)]; omega
        have e11 : shr .u32 ((nb (bit 5 d) (8 * q) (v + 5) : Nat) : Int) ((v + 5 - 8 : Nat) : Int) = some ((nb (bit 5 d) (8 * q) 8 : Nat) : Int) := by
          have := shr_nat (k := .u32) (nb (bit 5 d) (8 * q) (v + 5)) (v + 5 - 8) (by show _ < 2 ^ 32; omega)
          rw [ed] at this; exact this
        have hlim := lim_big
        simp only [e6, if_true, e7, e11, Option.bind_some, e9, address_Back_J5, e5, e10]
        rw [wu8 (by omega) (by omega), app_ok (by rw [Dg_len]; simp; omega), ← Dg_succ, bits_and_nat (k := .u32) rfl _ _ (by show _ < 2 ^ 32; omega) (by show _ < 2 ^ 32; omega), Nat.and_two_pow_sub_one_eq_mod, em]
        simp only [Option.bind_some]
        exact Back_L4_eq N d hb h5 hl m (j + 1) (q + 1) (v + 5 - 8) (by omega) (by omega) (by omega) (by omega)
      · have e6 : decide ((8 : Int) ≤ ((v + 5 : Nat) : Int)) = false := by simp only [decide_eq_false_iff_not]; omega
        simp only [e6, Bool.false_eq_true, if_false, address_Back_J5, e5]
        exact Back_L4_eq N d hb h5 hl m (j + 1) q (v + 5) (by omega) (by omega) (by omega) (by omega)
    · have e1 : decide ((j : Int) < (d.length : Int)) = false := by simp; omega
      simp only [e1, Bool.false_eq_true, if_false]
      exact ⟨q, v, hv, by omega, rfl⟩
/-- What stands behind digits. -/
def behind (d : List Int) : List Int × Int :=
  if fiveB d then
    if 5 ≤ 5 * d.length % 8 ∨ nb (bit 5 d) (8 * (5 * d.length / 8)) (5 * d.length % 8) ≠ 0 then ([], 3) else (Dg 8 (bit 5 d) (5 * d.length / 8), 0)
  else ([], 5)
theorem Back_eq (N : Nat) (hNN : 70000 ≤ N) (d : List Int) (hb : Byt d) (hl : d.length ≤ 500) : address_Back N d = some (behind d) := by
  unfold address_Back behind
  have h6 := Back_L6_eq N d hl N 0 (by omega) (by omega)
  rw [show ((0 : Nat) : Int) = 0 from rfl, List.drop_zero] at h6
  rw [h6]
  cases h5 : fiveB d with
  | false => rfl
  | true =>
    simp only [if_true, Option.bind_some, address_Back_J1]
    obtain ⟨q, v, h1, h2, h3⟩ := Back_L4_eq N d hb h5 hl N 0 0 0 (by omega) (by omega) (by omega) (by omega)
    have h3' : address_Back_L4 N d N 0 0 0 [] = some (((nb (bit 5 d) (8 * q) v : Nat) : Int), (v : Int), Dg 8 (bit 5 d) q) := h3
    have eq1 : 5 * d.length / 8 = q := by omega
    have eq2 : 5 * d.length % 8 = v := by omega
    rw [h3', eq1, eq2]
    simp only [Option.bind_some, address_Back_J2, address_Back_J3]
    by_cases hv : 5 ≤ v
    · have : decide ((5 : Int) ≤ (v : Int)) = true := by simp; omega
      simp [this, hv]
    · have e1 : decide ((5 : Int) ≤ (v : Int)) = false := by simp; omega
      by_cases hz : nb (bit 5 d) (8 * q) v = 0
      · simp [e1, hv, hz]
      · simp [e1, hz]
end Go.Proofs.YtidkaiebgjbekaaDoor
