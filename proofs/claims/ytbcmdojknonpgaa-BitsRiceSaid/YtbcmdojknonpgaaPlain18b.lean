import Derived.Test.YtbcmdojknonpgaaPlain18
set_option linter.unusedSimpArgs false
set_option linter.unusedVariables false
namespace Go.Proofs.Ytbcmdojknonpgaa
open Go Go.Vm

/-! ### A bit more -/
def putL (l : List Int) (n : Nat) (one : Bool) : List Int :=
  let l1 := if n % 8 = 0 then l ++ [0] else l
  if one then l1.set (n / 8) (((l1.getD (n / 8) 0).toNat ||| 128 / 2 ^ (n % 8) : Nat) : Int) else l1
theorem lim_big : 10000000 ≤ lim := by decide
theorem pw (r : Nat) (h : r < 8) : 128 / 2 ^ r = 2 ^ (7 - r) := by
  have : ∀ r, r < 8 → 128 / 2 ^ r = 2 ^ (7 - r) := by decide
  exact this r h
theorem put_eq (N : Nat) (l : List Int) (n : Nat) (one : Bool) (h : Ok l n) (hn : n < 1600000) : bits_writer_put N l (n : Int) one = some (putL l n one, ((n + 1 : Nat) : Int)) := by
  have hlen := h.len
  have hlim := lim_big
  have e1 : IntKind.i64.wrap (Int.tdiv (n : Int) 8) = ((n / 8 : Nat) : Int) := by rw [tdiv8, w64 (by omega) (by omega)]
  have e2 : IntKind.i64.wrap ((n : Int) + 1) = ((n + 1 : Nat) : Int) := by rw [w64 (by omega) (by omega)]; simp
  have key : ∀ l1 : List Int, Byt l1 → n / 8 < l1.length → bits_writer_put_J1 N (n : Int) one l1 = some (if one then l1.set (n / 8) (((l1.getD (n / 8) 0).toNat ||| 128 / 2 ^ (n % 8) : Nat) : Int) else l1, ((n + 1 : Nat) : Int)) := by
    intro l1 hb hl
    unfold bits_writer_put_J1 bits_writer_put_J2
    cases one with
    | false => simp only [Bool.false_eq_true, if_false, e2]
    | true =>
      obtain ⟨x, hx, ex⟩ := hb.get hl
      have es : shr .u8 128 ((n % 8 : Nat) : Int) = some ((128 / 2 ^ (n % 8) : Nat) : Int) := shr_nat 128 (n % 8) (by decide)
      have hp : 128 / 2 ^ (n % 8) < 2 ^ IntKind.u8.bits := Nat.lt_of_le_of_lt (Nat.div_le_self _ _) (by decide)
      simp only [if_true, e1, e2, idx_lt l1 hl, Option.bind_some, tmod8, es, ex, Int.toNat_natCast]
      rw [bits_or_nat (k := .u8) rfl x _ hx hp, List.getD_eq_getElem?_getD, List.getElem?_eq_getElem hl, ex]
      simp
  unfold bits_writer_put putL
  rw [tmod8]
  by_cases h8 : n % 8 = 0
  · have e3 : (((n % 8 : Nat) : Int) == 0) = true := by simp [h8]
    rw [e3]
    simp only [if_true]
    rw [app_ok (by simp; omega)]
    simp only [Option.bind_some, if_pos h8]
    exact key (l ++ [0]) (h.byt.append (by intro x hx; simp at hx; omega)) (by simp; omega)
  · have e3 : (((n % 8 : Nat) : Int) == 0) = false := by simp; omega
    rw [e3]
    simp only [Bool.false_eq_true, if_false, if_neg h8]
    exact key l h.byt (by omega)
theorem bitAt_append0 (l : List Int) (i : Nat) : bitAt (l ++ [0]) i = bitAt l i := by
  unfold bitAt
  simp only [List.getD_eq_getElem?_getD, List.getElem?_append]
  split
  · rfl
  · rename_i hh
    rw [List.getElem?_eq_none (by omega : l.length ≤ i / 8)]
    cases hz : i / 8 - l.length with
    | zero => simp
    | succ k => simp
theorem bitAt_or (l : List Int) (n i : Nat) (hl : n / 8 < l.length) : bitAt (l.set (n / 8) (((l.getD (n / 8) 0).toNat ||| 128 / 2 ^ (n % 8) : Nat) : Int)) i = (bitAt l i || decide (i = n)) := by
  unfold bitAt
  simp only [List.getD_eq_getElem?_getD, List.getElem?_set]
  by_cases hi : n / 8 = i / 8
  · rw [if_pos hi, if_pos hl]
    simp only [Option.getD_some, Int.toNat_natCast, Nat.testBit_or, pw (n % 8) (Nat.mod_lt _ (by omega)), Nat.testBit_two_pow, hi]
    congr 1
    rw [Bool.eq_iff_iff]; simp; omega
  · rw [if_neg hi]
    have : decide (i = n) = false := by simp; rintro rfl; exact hi rfl
    rw [this, Bool.or_false]
theorem putL_ok {l : List Int} {n : Nat} (one : Bool) (h : Ok l n) (hn : n < 1600000) : Ok (putL l n one) (n + 1) ∧ (∀ i, i < n → bitAt (putL l n one) i = bitAt l i) ∧ bitAt (putL l n one) n = one := by
  have hlen := h.len
  -- the string with room
  have hroom : ∃ l1, (if n % 8 = 0 then l ++ [0] else l) = l1 ∧ Byt l1 ∧ l1.length = (n + 1 + 7) / 8 ∧ (∀ i, bitAt l1 i = bitAt l i) := by
    by_cases h8 : n % 8 = 0
    · exact ⟨l ++ [0], by simp [h8], h.byt.append (by intro x hx; simp at hx; omega), by simp; omega, bitAt_append0 l⟩
    · exact ⟨l, by simp [h8], h.byt, by omega, fun _ => rfl⟩
  obtain ⟨l1, e1, hb, hl1, hbits⟩ := hroom
  have htail : ∀ i, n ≤ i → i < 8 * l1.length → bitAt l1 i = false := by
    intro i h1 h2
    rw [hbits]
    by_cases h3 : i < 8 * l.length
    · exact h.tail i h1 h3
    · unfold bitAt
      rw [List.getD_eq_getElem?_getD, List.getElem?_eq_none (by omega)]
      simp
  unfold putL
  simp only [e1]
  cases one with
  | false =>
    simp only [Bool.false_eq_true, if_false]
    exact ⟨⟨hb, hl1, fun i h1 h2 => htail i (by omega) h2, by omega⟩, fun i _ => hbits i, htail n (by omega) (by omega)⟩
  | true =>
    simp only [if_true]
    have hx : n / 8 < l1.length := by omega
    have hor := fun i => bitAt_or l1 n i hx
    refine ⟨⟨hb.set _ ?_, by simpa using hl1, fun i h1 h2 => ?_, by omega⟩, fun i hi => ?_, ?_⟩
    · obtain ⟨x, hx1, ex⟩ := hb.get hx
      rw [List.getD_eq_getElem?_getD, List.getElem?_eq_getElem hx, ex]
      simp only [Option.getD_some, Int.toNat_natCast]
      have := Nat.or_lt_two_pow (n := 8) (x := x) (y := 128 / 2 ^ (n % 8)) hx1 (Nat.lt_of_le_of_lt (Nat.div_le_self _ _) (by decide))
      omega
    · rw [hor, htail i (by omega) (by simpa using h2)]
      simp; omega
    · rw [hor, hbits]
      simp; omega
    · rw [hor]; simp
/-- Several bits. -/
def puts : List Int → Nat → List Bool → List Int
  | l, _, [] => l
  | l, n, b :: bs => puts (putL l n b) (n + 1) bs
theorem puts_ok : ∀ {bs : List Bool} {l : List Int} {n : Nat}, Ok l n → n + bs.length ≤ 1600000 → Ok (puts l n bs) (n + bs.length) ∧ (∀ i, i < n → bitAt (puts l n bs) i = bitAt l i) ∧ (∀ j, j < bs.length → bitAt (puts l n bs) (n + j) = bs.getD j false)
  | [], l, n, h, _ => ⟨h, fun _ _ => rfl, fun j hj => by simp at hj⟩
  | b :: bs, l, n, h, hn => by
    simp only [List.length_cons] at hn
    obtain ⟨h1, h2, h3⟩ := putL_ok b h (by omega)
    obtain ⟨k1, k2, k3⟩ := puts_ok (bs := bs) h1 (by omega)
    refine ⟨by simpa [puts, Nat.add_assoc, Nat.add_comm 1] using k1, fun i hi => ?_, fun j hj => ?_⟩
    · rw [puts, k2 i (by omega), h2 i hi]
    · cases j with
      | zero => rw [Nat.add_zero, puts, k2 n (by omega), h3]; rfl
      | succ j =>
        have := k3 j (by simp at hj; omega)
        rw [puts, show n + (j + 1) = n + 1 + j by omega, this]; rfl
theorem puts_append : ∀ (bs cs : List Bool) (l : List Int) (n : Nat), puts l n (bs ++ cs) = puts (puts l n bs) (n + bs.length) cs
  | [], cs, l, n => rfl
  | b :: bs, cs, l, n => by
    simp only [List.cons_append, puts, List.length_cons]
    rw [puts_append bs cs, show n + 1 + bs.length = n + (bs.length + 1) by omega]
/-- The lowest k bits of v, the highest of them first. -/
def bitsOf (v : Nat) (k : Nat) : List Bool := (List.range k).map fun i => v.testBit (k - 1 - i)
theorem and_one (x : Nat) : ((bits .and .u64 ((x % 2 ^ 64 : Nat) : Int) 1) == 1) = x.testBit 0 := by
  have e : bits .and .u64 ((x % 2 ^ 64 : Nat) : Int) 1 = ((x % 2 ^ 64 &&& 1 : Nat) : Int) := bits_and_nat rfl (x % 2 ^ 64) 1 (Nat.mod_lt _ (by decide)) (by decide)
  rw [e, Nat.and_one_is_mod, Nat.testBit_zero]
  rw [Bool.eq_iff_iff]
  simp
  omega
theorem number_L1_eq (N : Nat) (v k : Nat) (hv : v < 2 ^ 64) (hk : k ≤ 64) :
    ∀ (m j : Nat) (l : List Int) (n : Nat), j ≤ k → k - j < m → Ok l n → n + (k - j) ≤ 1600000 → bits_writer_number_L1 N (v : Int) (k : Int) m (j : Int) (n : Int) l = some (((n + (k - j) : Nat) : Int), puts l n ((bitsOf v k).drop j))
  | 0, j, l, n, _, hm, _, _ => by omega
  | m + 1, j, l, n, hj, hm, h, hn => by
    rw [bits_writer_number_L1]
    by_cases hjk : j < k
    · have e1 : decide ((j : Int) < (k : Int)) = true := by simpa using hjk
      have e2 : IntKind.i64.wrap (IntKind.i64.wrap ((k : Int) - 1) - (j : Int)) = ((k - 1 - j : Nat) : Int) := by
        rw [w64 (a := (k : Int) - 1) (by omega) (by omega), w64 (by omega) (by omega)]; omega
      have e3 : IntKind.i64.wrap ((j : Int) + 1) = ((j + 1 : Nat) : Int) := by rw [w64 (by omega) (by omega)]; simp
      have hlt : v / 2 ^ (k - 1 - j) < 2 ^ 64 := Nat.lt_of_le_of_lt (Nat.div_le_self _ _) hv
      have e4 := and_one (v / 2 ^ (k - 1 - j))
      rw [Nat.mod_eq_of_lt hlt] at e4
      have e5 : (v / 2 ^ (k - 1 - j)).testBit 0 = v.testBit (k - 1 - j) := by rw [Nat.testBit_div_two_pow, Nat.zero_add]
      simp only [e1, if_true, e2]
      rw [shr_nat (k := .u64) v (k - 1 - j) hv]
      simp only [Option.bind_some, e4, e5, e3]
      rw [put_eq N l n _ h (by omega)]
      simp only [Option.bind_some]
      obtain ⟨h1, _, _⟩ := putL_ok (v.testBit (k - 1 - j)) h (by omega)
      rw [number_L1_eq N v k hv hk m (j + 1) _ (n + 1) hjk (by omega) h1 (by omega)]
      have hd : (bitsOf v k).drop j = v.testBit (k - 1 - j) :: (bitsOf v k).drop (j + 1) := by
        have hl : j < (bitsOf v k).length := by simp [bitsOf]; exact hjk
        rw [List.drop_eq_getElem_cons hl]
        simp [bitsOf]
      rw [hd, puts]
      congr 2
      congr 1
      omega
    · have e1 : decide ((j : Int) < (k : Int)) = false := by simp; omega
      have : j = k := by omega
      subst this
      have hd : (bitsOf v j).drop j = [] := List.drop_eq_nil_of_le (by simp [bitsOf])
      simp [e1, hd, puts]
theorem writer_number_eq (N : Nat) (v k : Nat) (hv : v < 2 ^ 64) (hk : k ≤ 64) (l : List Int) (n : Nat) (h : Ok l n) (hn : n + k ≤ 1600000) (hN : 100 ≤ N) : bits_writer_number N l (n : Int) (v : Int) (k : Int) = some (puts l n (bitsOf v k), ((n + k : Nat) : Int)) := by
  unfold bits_writer_number
  have := number_L1_eq N v k hv hk N 0 l n (by omega) (by omega) h (by omega)
  rw [show ((0 : Nat) : Int) = 0 from rfl] at this
  rw [this]; simp
theorem begin_eq (N : Nat) (l : List Int) (n : Int) (hl : l.length ≤ 300000) : bits_begin N l n = some (l, n) := by
  unfold bits_begin
  have := lim_big
  rw [mks_ok (by omega)]
  simp only [Option.bind_some]
  rw [cpy_all (by simp)]
theorem Append_eq (N : Nat) (l : List Int) (n : Nat) (h : Ok l n) (v k : Nat) (hv : v < 2 ^ 64) (hk : k ≤ 64) (hN : 100 ≤ N) : bits_Append N l (n : Int) (v : Int) (k : Int) = if 1600000 < n + k then some ([], 0, 4) else some (puts l n (bitsOf v k), ((n + k : Nat) : Int), 0) := by
  have := h.max
  have := h.len
  unfold bits_Append bits_Append_J1
  rw [bits_Valid_eq N l n h.byt (by omega) ⟨by omega, by omega⟩, h.valid]
  have e1 : decide ((k : Int) < 0) = false := by simp
  have e2 : decide (64 < (k : Int)) = false := by simp; omega
  have e3 : IntKind.i64.wrap ((n : Int) + (k : Int)) = ((n + k : Nat) : Int) := by rw [w64 (by omega) (by omega)]; simp
  simp only [Option.bind_some, Bool.not_true, Bool.false_eq_true, if_false, e1, e2, e3]
  by_cases hm : 1600000 < n + k
  · have e4 : decide (1600000 < ((n + k : Nat) : Int)) = true := by simp; omega
    simp only [e4, if_true, hm]
  · have e4 : decide (1600000 < ((n + k : Nat) : Int)) = false := by simp; omega
    simp only [e4, Bool.false_eq_true, if_false, hm]
    rw [begin_eq N l _ (by omega)]
    simp only [Option.bind_some]
    rw [writer_number_eq N v k hv hk l n h (by omega) hN]
    rfl
theorem Read_eq (N : Nat) (l : List Int) (n : Nat) (h : Ok l n) (a k : Nat) (hk : k ≤ 64) (ha : a + k ≤ n) (hN : 100 ≤ N) : bits_Read N l (n : Int) (a : Int) (k : Int) = some ((num l a k : Int), ((a + k : Nat) : Int), 0) := by
  have := h.max
  have := h.len
  unfold bits_Read bits_Read_J1
  rw [bits_Valid_eq N l n h.byt (by omega) ⟨by omega, by omega⟩, h.valid]
  have e1 : decide ((k : Int) < 0) = false := by simp
  have e2 : decide (64 < (k : Int)) = false := by simp; omega
  have e3 : decide ((a : Int) < 0) = false := by simp
  have e4 : decide ((n : Int) < (a : Int)) = false := by simp; omega
  have e5 : decide (IntKind.i64.wrap ((n : Int) - (a : Int)) < (k : Int)) = false := by rw [w64 (by omega) (by omega)]; simp; omega
  have e6 : IntKind.i64.wrap ((a : Int) + (k : Int)) = ((a + k : Nat) : Int) := by rw [w64 (by omega) (by omega)]; simp
  simp only [Option.bind_some, Bool.not_true, Bool.false_eq_true, if_false, e1, e2, e3, e4, e5, e6]
  rw [bits_number_eq N l n a k h.byt hk (by omega) (by omega) hN]
  rfl
/-- What the bits of a number are read as. -/
theorem num_bitsOf (l : List Int) (a v k : Nat) (h : ∀ j, j < k → bitAt l (a + j) = (bitsOf v k).getD j false) : num l a k = v % 2 ^ k := by
  have key : ∀ j, j ≤ k → num l a j = v / 2 ^ (k - j) % 2 ^ j := by
    intro j
    induction j with
    | zero => intro _; simp [num, Nat.mod_one]
    | succ j ih =>
      intro hj
      rw [num, ih (by omega), h j (by omega)]
      have hb : (bitsOf v k).getD j false = v.testBit (k - 1 - j) := by
        rw [List.getD_eq_getElem?_getD, List.getElem?_eq_getElem (by simp [bitsOf]; omega)]
        simp [bitsOf]
      rw [hb, show k - j = (k - (j + 1)) + 1 by omega, Nat.pow_succ, ← Nat.div_div_eq_div_mul, show k - 1 - j = k - (j + 1) by omega]
      generalize k - (j + 1) = q
      rw [Nat.testBit_eq_decide_div_mod_eq, Nat.pow_succ 2 j, Nat.mul_comm (2 ^ j) 2, Nat.mod_mul]
      generalize v / 2 ^ q = y
      rcases Nat.mod_two_eq_zero_or_one y with hy | hy <;> simp [hy] <;> omega
  have := key k (by omega)
  simpa using this
end Go.Proofs.Ytbcmdojknonpgaa
