import Derived.Test.YtidkaiebgjbekaaDoorPlain27b
set_option linter.unusedSimpArgs false
set_option linter.unusedVariables false
namespace Go.Proofs.YtidkaiebgjbekaaDoor
open Go Go.Vm

/-! ### The reference's Back -/
/-- The bits before i. -/
def cut (β : Nat → Bool) (i x : Nat) : Bool := β x && decide (x < i)
theorem cut_ne {β : Nat → Bool} {i x : Nat} (h : x ≠ i) : cut β (i + 1) x = cut β i x := by
  unfold cut; congr 1
  by_cases hx : x < i
  · rw [decide_eq_true hx, decide_eq_true (by omega)]
  · rw [decide_eq_false hx, decide_eq_false (by omega)]
theorem cut_self (β : Nat → Bool) (i : Nat) : cut β i i = false := by simp [cut]
theorem cut_new (β : Nat → Bool) (i : Nat) : cut β (i + 1) i = β i := by simp [cut]
theorem or_set (β : Nat → Bool) (i : Nat) : nb (cut β i) (8 * (i / 8)) 8 ||| (β i).toNat * 2 ^ (7 - i % 8) = nb (cut β (i + 1)) (8 * (i / 8)) 8 := by
  apply Nat.eq_of_testBit_eq
  intro t
  have hs : (β i).toNat * 2 ^ (7 - i % 8) < 2 ^ 8 := by
    have h1 := Bool.toNat_le (β i)
    have h2 : 2 ^ (7 - i % 8) ≤ 2 ^ 7 := Nat.pow_le_pow_right (by omega) (by omega)
    have h3 : (β i).toNat * 2 ^ (7 - i % 8) ≤ 1 * 2 ^ (7 - i % 8) := Nat.mul_le_mul_right _ h1
    omega
  by_cases ht : t < 8
  · rw [Nat.testBit_or, nb_testBit _ _ _ _ ht, nb_testBit _ _ _ _ ht]
    by_cases hx : 8 * (i / 8) + (8 - 1 - t) = i
    · have e : t = 7 - i % 8 := by omega
      rw [hx, cut_self, cut_new, Bool.false_or, e]
      cases β i with
      | false => simp
      | true => simp [Nat.testBit_two_pow_self]
    · rw [cut_ne hx]
      have e : t ≠ 7 - i % 8 := by omega
      cases β i with
      | false => simp
      | true =>
        simp only [Bool.toNat_true, Nat.one_mul, Nat.testBit_two_pow]
        rw [decide_eq_false (by omega), Bool.or_false]
  · rw [Nat.testBit_or, Nat.testBit_lt_two_pow (Nat.lt_of_lt_of_le (nb_lt _ _ _) (Nat.pow_le_pow_right (by omega) (by omega))), Nat.testBit_lt_two_pow (Nat.lt_of_lt_of_le (nb_lt _ _ _) (Nat.pow_le_pow_right (by omega) (by omega))), Nat.testBit_lt_two_pow (Nat.lt_of_lt_of_le hs (Nat.pow_le_pow_right (by omega) (by omega)))]
    rfl
theorem Dg_get (w : Nat) (β : Nat → Bool) {q j : Nat} (h : j < q) : (Dg w β q)[j]'(by rw [Dg_len]; exact h) = ((nb β (w * j) w : Nat) : Int) := by simp [Dg]
theorem Dg_set (β : Nat → Bool) (K i : Nat) (h : i < 8 * K) : (Dg 8 (cut β i) K).set (i / 8) ((nb (cut β (i + 1)) (8 * (i / 8)) 8 : Nat) : Int) = Dg 8 (cut β (i + 1)) K := by
  apply List.ext_getElem
  · simp [Dg]
  · intro j h1 h2
    rw [Dg_len] at h2
    rw [List.getElem_set]
    split
    · rename_i hj; subst hj; rw [Dg_get _ _ h2]
    · rename_i hj
      rw [Dg_get _ _ h2, Dg_get _ _ h2]
      congr 1
      exact nb_congr (fun t ht => (cut_ne (by omega)).symm)
theorem Dg_far (β : Nat → Bool) (K i : Nat) (h : 8 * K ≤ i) : Dg 8 (cut β i) K = Dg 8 (cut β (i + 1)) K := by
  unfold Dg
  refine List.map_congr_left fun j hj => ?_
  have := List.mem_range.1 hj
  congr 1
  exact nb_congr (fun t ht => (cut_ne (by omega)).symm)
theorem Dg_all (β : Nat → Bool) (K i : Nat) (h : 8 * K ≤ i) : Dg 8 (cut β i) K = Dg 8 β K := by
  unfold Dg
  refine List.map_congr_left fun j hj => ?_
  have := List.mem_range.1 hj
  congr 1
  exact nb_congr (fun t ht => by unfold cut; rw [decide_eq_true (by omega), Bool.and_true])
theorem Dg_none (β : Nat → Bool) (K : Nat) : Dg 8 (cut β 0) K = List.replicate K 0 := by
  unfold Dg
  rw [List.eq_replicate_iff]
  refine ⟨by simp, fun x hx => ?_⟩
  simp only [List.mem_map] at hx
  obtain ⟨j, _, rfl⟩ := hx
  rw [nb_zero (fun t _ => by simp [cut])]
  rfl
theorem toNat_ne (c : Bool) : (((c.toNat : Nat) : Int) != 0) = c := by cases c <;> rfl
theorem ref27_Back_step (N : Nat) (d : List Int) (hb : Byt d) (hl : d.length ≤ 500) (K i m : Nat) (hK : 8 * K ≤ 5 * d.length) (hi : i < 5 * d.length) :
    ref27_Back_L3 N d (m + 1) (i : Int) (Dg 8 (cut (bit 5 d) i) K) = if decide (8 * K ≤ i) && bit 5 d i then some (.ret ([], 3)) else ref27_Back_L3 N d m ((i + 1 : Nat) : Int) (Dg 8 (cut (bit 5 d) (i + 1)) K) := by
  rw [ref27_Back_L3]
  have eL : IntKind.i64.wrap (5 * (d.length : Int)) = ((5 * d.length : Nat) : Int) := by rw [w64 (by omega) (by omega)]; simp
  have e1 : decide ((i : Int) < ((5 * d.length : Nat) : Int)) = true := by simp only [decide_eq_true_eq]; omega
  have h5 : i / 5 < d.length := by omega
  obtain ⟨x, hx, ex⟩ := hb.get h5
  have e2 : IntKind.i64.wrap (Int.tdiv (i : Int) 5) = ((i / 5 : Nat) : Int) := by rw [show Int.tdiv (i : Int) 5 = ((i / 5 : Nat) : Int) from tdiv_nat _ 5, w64 (by omega) (by omega)]
  have e3 : IntKind.u64.wrap (IntKind.i64.wrap (4 - Int.tmod (i : Int) 5)) = ((5 - 1 - i % 5 : Nat) : Int) := by
    rw [show Int.tmod (i : Int) 5 = ((i % 5 : Nat) : Int) from tmod_nat _ 5, w64 (by omega) (by omega), wu64 (by omega) (by omega)]; omega
  have e4 : IntKind.u64.wrap (IntKind.i64.wrap (7 - Int.tmod (i : Int) 8)) = ((7 - i % 8 : Nat) : Int) := by
    rw [show Int.tmod (i : Int) 8 = ((i % 8 : Nat) : Int) from tmod_nat _ 8, w64 (by omega) (by omega), wu64 (by omega) (by omega)]; omega
  have e5 : IntKind.i64.wrap (Int.tdiv (i : Int) 8) = ((i / 8 : Nat) : Int) := by rw [show Int.tdiv (i : Int) 8 = ((i / 8 : Nat) : Int) from tdiv_nat _ 8, w64 (by omega) (by omega)]
  have e6 : IntKind.i64.wrap (8 * ((Dg 8 (cut (bit 5 d) i) K).length : Int)) = ((8 * K : Nat) : Int) := by rw [Dg_len, w64 (by omega) (by omega)]; simp
  have e7 : IntKind.i64.wrap ((i : Int) + 1) = ((i + 1 : Nat) : Int) := by rw [w64 (by omega) (by omega)]; simp
  have hdx : x / 2 ^ (5 - 1 - i % 5) < 256 := Nat.lt_of_le_of_lt (Nat.div_le_self _ _) hx
  simp only [eL, e1, if_true, e2, e3, idx_lt d h5, Option.bind_some, ex]
  rw [shr_nat (k := .u8) x _ hx]
  simp only [Option.bind_some]
  rw [and_one8 _ hdx, bit_shr 5 (by omega) d i x h5 ex, e6]
  by_cases hiK : i < 8 * K
  · have e8 : decide ((i : Int) < ((8 * K : Nat) : Int)) = true := by simp only [decide_eq_true_eq]; omega
    have e9 : decide (8 * K ≤ i) = false := decide_eq_false (by omega)
    have h8 : i / 8 < (Dg 8 (cut (bit 5 d) i) K).length := by rw [Dg_len]; omega
    have hs : (bit 5 d i).toNat * 2 ^ (7 - i % 8) < 2 ^ 8 := by
      have h1 := Bool.toNat_le (bit 5 d i)
      have h2 : 2 ^ (7 - i % 8) ≤ 2 ^ 7 := Nat.pow_le_pow_right (by omega) (by omega)
      have h3 : (bit 5 d i).toNat * 2 ^ (7 - i % 8) ≤ 1 * 2 ^ (7 - i % 8) := Nat.mul_le_mul_right _ h1
      omega
    have e10 : shl .u8 (((bit 5 d i).toNat : Nat) : Int) ((7 - i % 8 : Nat) : Int) = some (((bit 5 d i).toNat * 2 ^ (7 - i % 8) : Nat) : Int) := by
      have := shl_nat (k := .u8) rfl (bit 5 d i).toNat (7 - i % 8)
      rw [Nat.mod_eq_of_lt (show _ < 2 ^ IntKind.u8.bits from hs)] at this
      exact this
    simp only [e8, e9, if_true, Bool.false_and, Bool.false_eq_true, if_false, e4, e5, idx_lt _ h8, Option.bind_some, e10, Int.toNat_natCast, ref27_Back_J4, e7]
    rw [Dg_get _ _ (by omega), bits_or_nat (k := .u8) rfl _ _ (nb_lt _ _ 8) hs, or_set, Dg_set _ _ _ hiK]
  · have e8 : decide ((i : Int) < ((8 * K : Nat) : Int)) = false := by simp only [decide_eq_false_iff_not]; omega
    have e9 : decide (8 * K ≤ i) = true := decide_eq_true (by omega)
    simp only [e8, e9, Bool.true_and, Bool.false_eq_true, if_false, toNat_ne, ref27_Back_J4, e7]
    rw [← Dg_far _ _ _ (by omega)]
theorem ref27_Back_end (N : Nat) (d : List Int) (hl : d.length ≤ 500) (m : Nat) (l : List Int) : ref27_Back_L3 N d (m + 1) ((5 * d.length : Nat) : Int) l = some (.brk l) := by
  rw [ref27_Back_L3]
  have eL : IntKind.i64.wrap (5 * (d.length : Int)) = ((5 * d.length : Nat) : Int) := by rw [w64 (by omega) (by omega)]; simp
  rw [eL]
  have e1 : decide (((5 * d.length : Nat) : Int) < ((5 * d.length : Nat) : Int)) = false := by simp
  simp only [e1, Bool.false_eq_true, if_false]
theorem ref27_Back_good (N : Nat) (d : List Int) (hb : Byt d) (hl : d.length ≤ 500) (K : Nat) (hK : 8 * K ≤ 5 * d.length) (hz : ∀ x, 8 * K ≤ x → x < 5 * d.length → bit 5 d x = false) :
    ∀ (m i : Nat), 5 * d.length - i < m → i ≤ 5 * d.length → ref27_Back_L3 N d m (i : Int) (Dg 8 (cut (bit 5 d) i) K) = some (.brk (Dg 8 (bit 5 d) K))
  | 0, i, hm, _ => by omega
  | m + 1, i, hm, hi => by
    by_cases h : i < 5 * d.length
    · rw [ref27_Back_step N d hb hl K i m hK h]
      have : (decide (8 * K ≤ i) && bit 5 d i) = false := by
        by_cases hk : 8 * K ≤ i
        · rw [hz i hk h, Bool.and_false]
        · rw [decide_eq_false hk, Bool.false_and]
      rw [this]
      exact ref27_Back_good N d hb hl K hK hz m (i + 1) (by omega) (by omega)
    · have : i = 5 * d.length := by omega
      subst this
      rw [ref27_Back_end N d hl m, Dg_all _ _ _ hK]
theorem ref27_Back_bad (N : Nat) (d : List Int) (hb : Byt d) (hl : d.length ≤ 500) (K x : Nat) (hK : 8 * K ≤ 5 * d.length) (h1 : 8 * K ≤ x) (h2 : x < 5 * d.length) (h3 : bit 5 d x = true) :
    ∀ (m i : Nat), x - i < m → i ≤ x → ref27_Back_L3 N d m (i : Int) (Dg 8 (cut (bit 5 d) i) K) = some (.ret ([], 3))
  | 0, i, hm, _ => by omega
  | m + 1, i, hm, hi => by
    rw [ref27_Back_step N d hb hl K i m hK (by omega)]
    cases hc : (decide (8 * K ≤ i) && bit 5 d i) with
    | true => simp only [if_true]
    | false =>
      have hne : i ≠ x := by
        intro e; subst e
        rw [h3, decide_eq_true h1] at hc; cases hc
      simp only [Bool.false_eq_true, if_false]
      exact ref27_Back_bad N d hb hl K x hK h1 h2 h3 m (i + 1) (by omega) (by omega)
theorem ref27_Back_eq (N : Nat) (hNN : 70000 ≤ N) (d : List Int) (hb : Byt d) (hl : d.length ≤ 500) : ref27_Back N d = some (behind d) := by
  unfold ref27_Back behind
  have h6 := ref27_Back_L5_eq N d hl N 0 (by omega) (by omega)
  rw [show ((0 : Nat) : Int) = 0 from rfl, List.drop_zero] at h6
  rw [h6]
  cases h5 : fiveB d with
  | false => rfl
  | true =>
    have hlim := lim_big
    have eL : IntKind.i64.wrap (5 * (d.length : Int)) = ((5 * d.length : Nat) : Int) := by rw [w64 (by omega) (by omega)]; simp
    have e1 : IntKind.i64.wrap (Int.tdiv ((5 * d.length : Nat) : Int) 8) = ((5 * d.length / 8 : Nat) : Int) := by rw [show Int.tdiv ((5 * d.length : Nat) : Int) 8 = ((5 * d.length / 8 : Nat) : Int) from tdiv_nat _ 8, w64 (by omega) (by omega)]
    simp only [if_true, Option.bind_some, ref27_Back_J1, eL, e1]
    rw [mks_ok (by omega)]
    simp only [Option.bind_some]
    have hK : 8 * (5 * d.length / 8) ≤ 5 * d.length := by omega
    by_cases hz : ∀ x, 8 * (5 * d.length / 8) ≤ x → x < 5 * d.length → bit 5 d x = false
    · have hg := ref27_Back_good N d hb hl (5 * d.length / 8) hK hz N 0 (by omega) (by omega)
      rw [Dg_none, show ((0 : Nat) : Int) = 0 from rfl] at hg
      rw [hg]
      simp only [Option.bind_some, ref27_Back_J2, eL, Dg_len]
      have e2 : IntKind.i64.wrap (8 * ((5 * d.length / 8 : Nat) : Int)) = ((8 * (5 * d.length / 8) : Nat) : Int) := by rw [w64 (by omega) (by omega)]; simp
      have e3 : IntKind.i64.wrap (((5 * d.length : Nat) : Int) - ((8 * (5 * d.length / 8) : Nat) : Int)) = ((5 * d.length % 8 : Nat) : Int) := by rw [w64 (by omega) (by omega)]; omega
      rw [e2, e3, nb_zero (fun j hj => hz _ (by omega) (by omega))]
      by_cases hv : 5 ≤ 5 * d.length % 8
      · have : decide ((5 : Int) ≤ ((5 * d.length % 8 : Nat) : Int)) = true := by simp only [decide_eq_true_eq]; omega
        simp only [this, if_true, hv, true_or]
      · have : decide ((5 : Int) ≤ ((5 * d.length % 8 : Nat) : Int)) = false := by simp only [decide_eq_false_iff_not]; omega
        simp only [this, Bool.false_eq_true, if_false, hv, ne_eq, not_true_eq_false, or_self]
    · have : ∃ x, 8 * (5 * d.length / 8) ≤ x ∧ x < 5 * d.length ∧ bit 5 d x = true := by
        apply Classical.byContradiction
        intro hn
        refine hz fun x h1 h2 => ?_
        cases hx : bit 5 d x with
        | false => rfl
        | true => exact absurd ⟨x, h1, h2, hx⟩ hn
      obtain ⟨x, h1, h2, h3⟩ := this
      have hg := ref27_Back_bad N d hb hl (5 * d.length / 8) x hK h1 h2 h3 N 0 (by omega) (by omega)
      rw [Dg_none, show ((0 : Nat) : Int) = 0 from rfl] at hg
      rw [hg]
      have hne : nb (bit 5 d) (8 * (5 * d.length / 8)) (5 * d.length % 8) ≠ 0 := by
        intro h0
        have := nb_eq_zero h0 (x - 8 * (5 * d.length / 8)) (by omega)
        rw [show 8 * (5 * d.length / 8) + (x - 8 * (5 * d.length / 8)) = x by omega, h3] at this
        cases this
      simp only [Option.bind_some, hne, ne_eq, not_false_eq_true, or_true, if_true]

/-! ### The law -/
theorem Same_self (N : Nat) (l : List Int) : ref01_Same N l l = some true := by simp [ref01_Same]
abbrev NN : Nat := 70000
theorem sane_true : law27_sane NN = some true := by decide +kernel
end Go.Proofs.YtidkaiebgjbekaaDoor
