import Derived.Test.YtbcmdojknonpgaaPlain18e
set_option linter.unusedSimpArgs false
set_option linter.unusedVariables false
namespace Go.Proofs.Ytbcmdojknonpgaa
open Go Go.Vm

/-! ### The reference -/
theorem rbit_tab : ∀ x : Nat, x < 256 → ∀ r, r < 8 → (bits .and .u8 ((x / 2 ^ (7 - r) : Nat) : Int) 1 == 1) = x.testBit (7 - r) := by decide +kernel
theorem ref18_bit_eq (N : Nat) (l : List Int) (n : Int) (i : Nat) (hb : Byt l) (hi : i < 8 * l.length) (hl : l.length ≤ 300000) : ref18_bit N l n (i : Int) = some (bitAt l i) := by
  have h8 : i / 8 < l.length := by omega
  obtain ⟨x, hx, e⟩ := hb.get h8
  unfold ref18_bit
  have e1 : IntKind.i64.wrap (Int.tdiv (i : Int) 8) = ((i / 8 : Nat) : Int) := by rw [tdiv8 i, w64 (by omega) (by omega)]
  have e2 : IntKind.i64.wrap (7 - Int.tmod (i : Int) 8) = ((7 - i % 8 : Nat) : Int) := by rw [tmod8, w64 (by omega) (by omega)]; omega
  rw [e1, e2, idx_lt l h8]
  simp only [Option.bind_some, e]
  rw [shr_nat (k := .u8) x (7 - i % 8) hx]
  simp only [Option.bind_some]
  rw [rbit_tab x hx (i % 8) (Nat.mod_lt _ (by omega))]
  unfold bitAt
  rw [List.getD_eq_getElem?_getD, List.getElem?_eq_getElem h8, e]
  simp
theorem ref18_Valid_L3_eq (N : Nat) (l : List Int) (n : Nat) (hb : Byt l) (hl : l.length ≤ 300000) :
    ∀ (m j : Nat), n ≤ j → j ≤ 8 * l.length → 8 * l.length - j < m → (∀ i, n ≤ i → i < j → bitAt l i = false) →
      ref18_Valid_L3 N l (n : Int) m (j : Int) = some (if (∀ i, i < 8 * l.length → n ≤ i → bitAt l i = false) then .brk () else .ret false)
  | 0, j, _, _, hm, _ => by omega
  | m + 1, j, h1, h2, hm, hz => by
    rw [ref18_Valid_L3]
    have e1 : IntKind.i64.wrap (8 * (l.length : Int)) = ((8 * l.length : Nat) : Int) := by rw [w64 (by omega) (by omega)]; simp
    rw [e1]
    by_cases hj : j < 8 * l.length
    · have e2 : decide ((j : Int) < ((8 * l.length : Nat) : Int)) = true := by simp only [decide_eq_true_eq]; omega
      have e3 : IntKind.i64.wrap ((j : Int) + 1) = ((j + 1 : Nat) : Int) := by rw [w64 (by omega) (by omega)]; simp
      simp only [e2, if_true]
      rw [ref18_bit_eq N l n j hb hj hl]
      simp only [Option.bind_some, e3]
      cases hbit : bitAt l j with
      | true =>
        simp only [if_true]
        rw [if_neg (fun hh => by rw [hh j hj h1] at hbit; cases hbit)]
      | false =>
        simp only [Bool.false_eq_true, if_false]
        exact ref18_Valid_L3_eq N l n hb hl m (j + 1) (by omega) (by omega) (by omega) (fun i h3 h4 => by
          by_cases hij : i = j
          · subst hij; exact hbit
          · exact hz i h3 (by omega))
    · have e2 : decide ((j : Int) < ((8 * l.length : Nat) : Int)) = false := by simp only [decide_eq_false_iff_not]; omega
      simp only [e2, Bool.false_eq_true, if_false]
      rw [if_pos (fun i h3 h4 => hz i h4 (by omega))]
theorem ref18_Valid_eq (N : Nat) (l : List Int) (n : Int) (hb : Byt l) (hl : l.length ≤ 5000) (hN : 70000 ≤ N) (hn : -9223372036854775808 ≤ n ∧ n ≤ 9223372036854775807) : ref18_Valid N l n = some (validB l n) := by
  unfold ref18_Valid ref18_Valid_J1
  by_cases h1 : n < 0
  · have : validB l n = false := by simp [validB]; omega
    simp [h1, this]
  have e1 : decide (n < 0) = false := by simpa using h1
  by_cases h2 : 1600000 < n
  · have : validB l n = false := by simp [validB]; omega
    simp [e1, h2, this]
  have e2 : decide (1600000 < n) = false := by simpa using h2
  obtain ⟨m, rfl⟩ := Int.eq_ofNat_of_zero_le (show 0 ≤ n by omega)
  have e3 : IntKind.i64.wrap (Int.tdiv (IntKind.i64.wrap ((m : Int) + 7)) 8) = (((m + 7) / 8 : Nat) : Int) := by
    have ea : IntKind.i64.wrap ((m : Int) + 7) = ((m + 7 : Nat) : Int) := by rw [w64 (by omega) (by omega)]; simp
    rw [ea, tdiv8 (m + 7), w64 (by omega) (by omega)]
  simp only [e1, e2, e3, Bool.false_eq_true, if_false]
  by_cases h3 : l.length = (m + 7) / 8
  · have e4 : ((l.length : Int) != (((m + 7) / 8 : Nat) : Int)) = false := by simp [h3]
    simp only [e4, Bool.false_eq_true, if_false]
    rw [ref18_Valid_L3_eq N l m hb (by omega) N m (by omega) (by omega) (by omega) (fun i h4 h5 => by omega)]
    simp only [Option.bind_some]
    by_cases hall : ∀ i, i < 8 * l.length → m ≤ i → bitAt l i = false
    · have : validB l (m : Int) = true := by
        simp only [validB, Bool.and_eq_true, decide_eq_true_eq]
        exact ⟨by omega, by omega, by omega, fun i h5 h6 => hall i h5 (by simpa using h6)⟩
      rw [if_pos hall, this]; rfl
    · have : validB l (m : Int) = false := by
        simp only [validB, Bool.and_eq_false_iff, decide_eq_false_iff_not]
        exact .inr (.inr (.inr (fun hh => hall (fun i h5 h6 => hh i h5 (by simpa using h6)))))
      rw [if_neg hall, this]
  · have e4 : ((l.length : Int) != (((m + 7) / 8 : Nat) : Int)) = true := by
      simp only [bne_iff_ne, ne_eq]
      omega
    have : validB l (m : Int) = false := by simp [validB]; omega
    simp only [e4, if_true, this]
theorem shl1 (r : Nat) (h : r < 8) : 1 * 2 ^ (7 - r) % 2 ^ IntKind.u8.bits = 128 / 2 ^ r := by
  have : ∀ r, r < 8 → 1 * 2 ^ (7 - r) % 2 ^ 8 = 128 / 2 ^ r := by decide
  exact this r h
theorem ref18_put_eq (N : Nat) (l : List Int) (n : Nat) (one : Bool) (h : Ok l n) (hn : n < 1600000) : ref18_put N l (n : Int) one = some (putL l n one, ((n + 1 : Nat) : Int)) := by
  have hlen := h.len
  have hlim := lim_big
  have e1 : IntKind.i64.wrap (Int.tdiv (n : Int) 8) = ((n / 8 : Nat) : Int) := by rw [tdiv8, w64 (by omega) (by omega)]
  have e2 : IntKind.i64.wrap ((n : Int) + 1) = ((n + 1 : Nat) : Int) := by rw [w64 (by omega) (by omega)]; simp
  have e7 : IntKind.i64.wrap (7 - Int.tmod (n : Int) 8) = ((7 - n % 8 : Nat) : Int) := by rw [tmod8, w64 (by omega) (by omega)]; omega
  have key : ∀ l1 : List Int, Byt l1 → n / 8 < l1.length → ref18_put_J1 N (n : Int) one l1 = some (if one then l1.set (n / 8) (((l1.getD (n / 8) 0).toNat ||| 128 / 2 ^ (n % 8) : Nat) : Int) else l1, ((n + 1 : Nat) : Int)) := by
    intro l1 hb hl
    unfold ref18_put_J1 ref18_put_J2
    cases one with
    | false => simp only [Bool.false_eq_true, if_false, e2]
    | true =>
      obtain ⟨x, hx, ex⟩ := hb.get hl
      have es : shl .u8 1 ((7 - n % 8 : Nat) : Int) = some ((128 / 2 ^ (n % 8) : Nat) : Int) := by
        have := shl_nat (k := .u8) rfl 1 (7 - n % 8)
        rw [shl1 (n % 8) (Nat.mod_lt _ (by omega))] at this
        exact this
      have hp : 128 / 2 ^ (n % 8) < 2 ^ IntKind.u8.bits := Nat.lt_of_le_of_lt (Nat.div_le_self _ _) (by decide)
      simp only [if_true, e1, e2, e7, idx_lt l1 hl, Option.bind_some, es, ex, Int.toNat_natCast]
      rw [bits_or_nat (k := .u8) rfl x _ hx hp, List.getD_eq_getElem?_getD, List.getElem?_eq_getElem hl, ex]
      simp
  unfold ref18_put putL
  rw [tmod8]
  by_cases h8 : n % 8 = 0
  · have e3 : (((n % 8 : Nat) : Int) == 0) = true := by simp [h8]
    rw [e3]
    simp only [if_true]
    rw [app_ok (by simp; omega)]
    simp only [Option.bind_some, if_pos h8]
    exact key (l ++ [0]) (h.byt.append (by intro x hx; simp at hx; omega)) (by simp; omega)
  · have e3 : (((n % 8 : Nat) : Int) == 0) = false := by simp; omega
    rw [e3]
    simp only [Bool.false_eq_true, if_false, if_neg h8]
    exact key l h.byt (by omega)
theorem joined_eq (N : Nat) (a b : List Int) (h : a.length + b.length ≤ 1000000) : ref01_joined N a b = some (a ++ b) := by
  have hlim := lim_big
  unfold ref01_joined
  have e1 : IntKind.i64.wrap ((a.length : Int) + (b.length : Int)) = ((a.length + b.length : Nat) : Int) := by rw [w64 (by omega) (by omega)]; simp
  rw [e1, mks_ok (by omega)]
  simp only [Option.bind_some, List.take_zero]
  rw [app_ok (by simp; omega)]
  simp only [Option.bind_some, List.nil_append]
  rw [app_ok (by omega)]
  rfl
theorem Join_eq (N : Nat) (l : List Int) (h : l.length ≤ 1000000) (hN : 70000 ≤ N) : ref01_Join N [l] = some l := by
  unfold ref01_Join ref01_Join_J1
  obtain ⟨m, rfl⟩ : ∃ m, N = m + 1 + 1 := ⟨N - 2, by omega⟩
  rw [ref01_Join_L2]
  have e1 : decide ((0 : Int) < (([l] : List (List Int)).length : Int)) = true := by simp
  have e2 : idx [l] 0 = some l := rfl
  simp only [e1, if_true, e2, Option.bind_some]
  rw [joined_eq _ [] l (by simpa using h)]
  simp only [Option.bind_some, List.nil_append]
  rw [ref01_Join_L2]
  have e3 : decide (IntKind.i64.wrap (0 + 1) < (([l] : List (List Int)).length : Int)) = false := by rw [w64 (by omega) (by omega)]; simp
  simp only [e3, Bool.false_eq_true, if_false, Option.bind_some]
theorem ref_bits_L (N : Nat) (v k : Nat) (hv : v < 2 ^ 64) (hk : k ≤ 64) (L : Nat → Int → Int → List Int → Option (Int × List Int)) (hL : ∀ m (i n : Int) (l : List Int), L (m + 1) i n l = if decide (0 ≤ i) then (shr .u64 (v : Int) i).bind fun x => (ref18_put N l n ((bits .and .u64 x 1) == 1)).bind fun y => L m (IntKind.i64.wrap (i - 1)) y.2 y.1 else some (n, l)) :
    ∀ (m j : Nat) (l : List Int) (n : Nat), j ≤ k → k - j < m → Ok l n → n + (k - j) ≤ 1600000 → L m ((k : Int) - 1 - (j : Int)) (n : Int) l = some (((n + (k - j) : Nat) : Int), puts l n ((bitsOf v k).drop j))
  | 0, j, l, n, _, hm, _, _ => by omega
  | m + 1, j, l, n, hj, hm, h, hn => by
    rw [hL]
    by_cases hjk : j < k
    · have e1 : decide (0 ≤ (k : Int) - 1 - (j : Int)) = true := by simp only [decide_eq_true_eq]; omega
      have e2 : (k : Int) - 1 - (j : Int) = ((k - 1 - j : Nat) : Int) := by omega
      have e3 : IntKind.i64.wrap ((k : Int) - 1 - (j : Int) - 1) = (k : Int) - 1 - ((j + 1 : Nat) : Int) := by rw [w64 (by omega) (by omega)]; omega
      have hlt : v / 2 ^ (k - 1 - j) < 2 ^ 64 := Nat.lt_of_le_of_lt (Nat.div_le_self _ _) hv
      have e4 := and_one (v / 2 ^ (k - 1 - j))
      rw [Nat.mod_eq_of_lt hlt] at e4
      have e5 : (v / 2 ^ (k - 1 - j)).testBit 0 = v.testBit (k - 1 - j) := by rw [Nat.testBit_div_two_pow, Nat.zero_add]
      have es : shr .u64 (v : Int) ((k : Int) - 1 - (j : Int)) = some ((v / 2 ^ (k - 1 - j) : Nat) : Int) := by rw [e2]; exact shr_nat (k := .u64) v (k - 1 - j) hv
      simp only [e1, if_true, es, Option.bind_some, e4, e5, e3]
      rw [ref18_put_eq N l n _ h (by omega)]
      simp only [Option.bind_some]
      obtain ⟨h1, _, _⟩ := putL_ok (v.testBit (k - 1 - j)) h (by omega)
      rw [ref_bits_L N v k hv hk L hL m (j + 1) _ (n + 1) hjk (by omega) h1 (by omega)]
      have hd : (bitsOf v k).drop j = v.testBit (k - 1 - j) :: (bitsOf v k).drop (j + 1) := by
        have hl : j < (bitsOf v k).length := by simp [bitsOf]; exact hjk
        rw [List.drop_eq_getElem_cons hl]
        simp [bitsOf]
      rw [hd, puts]
      congr 2
      congr 1
      omega
    · have e1 : decide (0 ≤ (k : Int) - 1 - (j : Int)) = false := by simp only [decide_eq_false_iff_not]; omega
      have : j = k := by omega
      subst this
      have hd : (bitsOf v j).drop j = [] := List.drop_eq_nil_of_le (by simp [bitsOf])
      simp only [e1, Bool.false_eq_true, if_false, hd, puts]
      congr 2
      congr 1
      omega
theorem ref18_Append_eq (N : Nat) (hNN : 70000 ≤ N) (l : List Int) (n : Nat) (h : Ok l n) (hl : l.length ≤ 5000) (v k : Nat) (hv : v < 2 ^ 64) (hk : k ≤ 64) : ref18_Append N l (n : Int) (v : Int) (k : Int) = if 1600000 < n + k then some ([], 0, 4) else some (puts l n (bitsOf v k), ((n + k : Nat) : Int), 0) := by
  have := h.max
  have := h.len
  unfold ref18_Append ref18_Append_J1
  rw [ref18_Valid_eq N l n h.byt hl hNN ⟨by omega, by omega⟩, h.valid]
  have e1 : decide ((k : Int) < 0) = false := by simp
  have e2 : decide (64 < (k : Int)) = false := by simp; omega
  have e3 : IntKind.i64.wrap ((n : Int) + (k : Int)) = ((n + k : Nat) : Int) := by rw [w64 (by omega) (by omega)]; simp
  simp only [Option.bind_some, Bool.not_true, Bool.false_eq_true, if_false, e1, e2, e3]
  by_cases hm : 1600000 < n + k
  · have e4 : decide (1600000 < ((n + k : Nat) : Int)) = true := by simp; omega
    simp only [e4, if_true, hm]
  · have e4 : decide (1600000 < ((n + k : Nat) : Int)) = false := by simp; omega
    simp only [e4, Bool.false_eq_true, if_false, hm]
    rw [Join_eq N l (by omega) hNN]
    simp only [Option.bind_some, ref18_Append_J2, ref18_Append_J3]
    have e5 : IntKind.i64.wrap ((k : Int) - 1) = (k : Int) - 1 - ((0 : Nat) : Int) := by rw [w64 (by omega) (by omega)]; simp
    rw [e5, ref_bits_L N v k hv hk (ref18_Append_L4 N v) (fun m i n l => by rw [ref18_Append_L4]) N 0 l n (by omega) (by omega) h (by omega)]
    simp
theorem Same_self (N : Nat) (l : List Int) (n : Int) : ref18_Same N l n l n = some true := by
  simp [ref18_Same, ref01_Same, ref18_Same_J1]
theorem BitsAppends_true (N : Nat) (hNN : 70000 ≤ N) (hsane : law18_sane N = some true) (l : List Int) (n v k : Int) (hb : Byt l) (hn : -9223372036854775808 ≤ n ∧ n ≤ 9223372036854775807) (hv : 0 ≤ v ∧ v < 18446744073709551616) (hk : -9223372036854775808 ≤ k ∧ k ≤ 9223372036854775807) : law18_BitsAppends N l n v k = some true := by
  unfold law18_BitsAppends law18_kept
  rw [hsane]
  simp only [Option.bind_some, Bool.not_true, Bool.false_eq_true, if_false]
  by_cases hl : l.length ≤ 300
  · have e1 : decide ((l.length : Int) ≤ 300) = true := by simp; omega
    simp only [e1, Bool.not_true, Bool.false_eq_true, if_false]
    have hP : ∃ r, bits_Append N l n v k = some r ∧ ref18_Append N l n v k = some r := by
      cases hval : validB l n with
      | false =>
        refine ⟨([], 0, 6), ?_, ?_⟩
        · unfold bits_Append; rw [bits_Valid_eq N l n hb (by omega) hn, hval]; rfl
        · unfold ref18_Append; rw [ref18_Valid_eq N l n hb (by omega) hNN hn, hval]; rfl
      | true =>
        by_cases hr : k < 0 ∨ 64 < k
        · refine ⟨([], 0, 5), ?_, ?_⟩
          · unfold bits_Append bits_Append_J1
            rw [bits_Valid_eq N l n hb (by omega) hn, hval]
            rcases hr with hr | hr
            · simp [hr]
            · have : decide (k < 0) = false := by simp; omega
              simp [this, hr]
          · unfold ref18_Append ref18_Append_J1
            rw [ref18_Valid_eq N l n hb (by omega) hNN hn, hval]
            rcases hr with hr | hr
            · simp [hr]
            · have : decide (k < 0) = false := by simp; omega
              simp [this, hr]
        · have hn0 : 0 ≤ n := by simp [validB] at hval; omega
          obtain ⟨n, rfl⟩ := Int.eq_ofNat_of_zero_le hn0
          obtain ⟨v, rfl⟩ := Int.eq_ofNat_of_zero_le hv.1
          obtain ⟨k, rfl⟩ := Int.eq_ofNat_of_zero_le (show 0 ≤ k by omega)
          have h := validB_ok hb hval
          rw [Append_eq N l n h v k (by omega) (by omega) (by omega), ref18_Append_eq N hNN l n h (by omega) v k (by omega) (by omega)]
          split <;> exact ⟨_, rfl, rfl⟩
    obtain ⟨r, h1, h2⟩ := hP
    rw [h1, h2]
    simp only [Option.bind_some]
    rw [bits_Valid_eq N l n hb (by omega) hn, ref18_Valid_eq N l n hb (by omega) hNN hn]
    simp only [Option.bind_some, beq_self_eq_true, if_true, Same_self, law18_BitsAppends_J1]
  · have e1 : decide ((l.length : Int) ≤ 300) = false := by simp; omega
    simp only [e1, Bool.not_false, if_true]
end Go.Proofs.Ytbcmdojknonpgaa
