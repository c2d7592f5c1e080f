import Derived.Test.YtbcmdojknonpgaaPlain18b
set_option linter.unusedSimpArgs false
set_option linter.unusedVariables false
namespace Go.Proofs.Ytbcmdojknonpgaa
open Go Go.Vm

abbrev NN : Nat := 70000
theorem sane_true : law18_sane NN = some true := by decide +kernel
theorem num_same {l c : List Int} {n a k : Nat} (h : ∀ i, i < n → bitAt c i = bitAt l i) (ha : a + k ≤ n) : num c a k = num l a k := num_congr (fun j hj => h (a + j) (by omega))
theorem BitsBack_L5 (l c : List Int) (n k : Nat) (e : Int) (h : Ok l n) (hc : Ok c (n + k)) (hs : ∀ i, i < n → bitAt c i = bitAt l i) :
    ∀ (m a : Nat), n - a < m → law18_BitsBack_L5 NN l (n : Int) (c, ((n + k : Nat) : Int), e) m (a : Int) = some (.brk ())
  | 0, a, hm => by omega
  | m + 1, a, hm => by
    have := h.max
    have := hc.max
    rw [law18_BitsBack_L5]
    by_cases ha : a < n
    · have e1 : decide ((a : Int) < (n : Int)) = true := by simpa using ha
      have e2 : IntKind.i64.wrap ((n : Int) - (a : Int)) = ((n - a : Nat) : Int) := by rw [w64 (by omega) (by omega)]; omega
      have e3 : (if ((n - a : Nat) : Int) < 32 then ((n - a : Nat) : Int) else 32) = ((min (n - a) 32 : Nat) : Int) := by split <;> omega
      have e4 : IntKind.i64.wrap ((a : Int) + 32) = ((a + 32 : Nat) : Int) := by rw [w64 (by omega) (by omega)]; simp
      simp only [e1, if_true, e2, e3]
      rw [Read_eq NN l n h a _ (by omega) (by omega) (by decide), Read_eq NN c (n + k) hc a _ (by omega) (by omega) (by decide)]
      simp only [Option.bind_some, law18_BitsBack_J6, e4]
      rw [num_same hs (by omega)]
      simp only [bne_self_eq_false, Bool.false_eq_true, if_false]
      exact BitsBack_L5 l c n k e h hc hs m (a + 32) (by omega)
    · have e1 : decide ((a : Int) < (n : Int)) = false := by simp; omega
      simp only [e1, Bool.false_eq_true, if_false]
theorem and_mask (v k : Nat) (hv : v < 2 ^ 64) (hk : k < 64) : bits .and .u64 (v : Int) (IntKind.u64.wrap (((1 * 2 ^ k % 2 ^ IntKind.u64.bits : Nat) : Int) - 1)) = ((v % 2 ^ k : Nat) : Int) := by
  have hp : 2 ^ k < 2 ^ 64 := Nat.pow_lt_pow_right (by omega) hk
  have h1 : 1 ≤ 2 ^ k := Nat.one_le_two_pow
  have e1 : 1 * 2 ^ k % 2 ^ IntKind.u64.bits = 2 ^ k := by rw [Nat.one_mul]; exact Nat.mod_eq_of_lt hp
  have e2 : IntKind.u64.wrap (((2 ^ k : Nat) : Int) - 1) = ((2 ^ k - 1 : Nat) : Int) := by rw [wu64 (by omega) (by omega)]; omega
  rw [e1, e2, bits_and_nat (k := .u64) rfl v _ hv (by show _ < 2 ^ 64; omega), Nat.and_two_pow_sub_one_eq_mod]
theorem BitsBack_true (l : List Int) (n v k8 : Int) (hb : Byt l) (hn : -9223372036854775808 ≤ n ∧ n ≤ 9223372036854775807) (hv : 0 ≤ v ∧ v < 18446744073709551616) (hk : 0 ≤ k8 ∧ k8 < 256) : law18_BitsBack NN l n v k8 = some true := by
  unfold law18_BitsBack law18_kept
  rw [sane_true]
  simp only [Option.bind_some, Bool.not_true, Bool.false_eq_true, if_false]
  by_cases hl : l.length ≤ 300
  · have e1 : decide ((l.length : Int) ≤ 300) = true := by simp; omega
    simp only [e1, Bool.not_true, Bool.false_eq_true, if_false]
    rw [bits_Valid_eq NN l n hb (by omega) hn]
    simp only [Option.bind_some]
    cases hval : validB l n with
    | false => simp [law18_BitsBack_J1]
    | true =>
      have hn0 : 0 ≤ n := by simp [validB] at hval; omega
      obtain ⟨n, rfl⟩ := Int.eq_ofNat_of_zero_le hn0
      obtain ⟨v, rfl⟩ := Int.eq_ofNat_of_zero_le hv.1
      obtain ⟨q, rfl⟩ := Int.eq_ofNat_of_zero_le hk.1
      have hv' : v < 2 ^ 64 := by omega
      have h := validB_ok hb hval
      have hlen := h.len
      have e2 : IntKind.i64.wrap (Int.tmod (q : Int) 65) = ((q % 65 : Nat) : Int) := by rw [show Int.tmod (q : Int) 65 = ((q % 65 : Nat) : Int) from tmod_nat q 65, w64 (by omega) (by omega)]
      have hk64 : q % 65 ≤ 64 := by omega
      generalize q % 65 = k at *
      obtain ⟨c1, c2, c3⟩ := puts_ok (bs := bitsOf v k) h (by simp [bitsOf]; omega)
      have hbl : (bitsOf v k).length = k := by simp [bitsOf]
      rw [hbl] at c1
      have hnum : num (puts l n (bitsOf v k)) n k = v % 2 ^ k := num_bitsOf _ _ _ _ (fun j hj => c3 j (by omega))
      have hA := Append_eq NN l n h v k hv' hk64 (by decide)
      rw [if_neg (by omega)] at hA
      have hR := Read_eq NN (puts l n (bitsOf v k)) (n + k) c1 n k hk64 (by omega) (by decide)
      rw [hnum] at hR
      unfold law18_BitsBack_J1
      simp only [Bool.not_true, Bool.false_eq_true, if_false, e2, hA, Option.bind_some, hR]
      have e7 : IntKind.i64.wrap ((n : Int) + (k : Int)) = ((n + k : Nat) : Int) := by rw [w64 (by omega) (by omega)]; simp
      have fin : law18_BitsBack_J2 NN l (n : Int) (q : Int) (puts l n (bitsOf v k), ((n + k : Nat) : Int), 0) (((v % 2 ^ k : Nat) : Int), ((n + k : Nat) : Int), 0) ((v % 2 ^ k : Nat) : Int) = some true := by
        unfold law18_BitsBack_J2
        simp only [bne_self_eq_false, Bool.false_eq_true, if_false, e2, e7]
        rw [bits_Valid_eq NN _ _ c1.byt (by have := c1.len; have := c1.max; omega) ⟨by omega, by omega⟩, c1.valid]
        simp only [Option.bind_some, Bool.not_true, law18_BitsBack_J3, Bool.false_eq_true, if_false]
        have hnn : n - 0 < NN := by
          show n - 0 < 70000
          omega
        have := BitsBack_L5 l (puts l n (bitsOf v k)) n k 0 h c1 c2 NN 0 hnn
        rw [show ((0 : Nat) : Int) = 0 from rfl] at this
        rw [this]; rfl
      by_cases hk4 : k < 64
      · have e5 : decide ((k : Int) < 64) = true := by simp; omega
        have e6 : shl .u64 1 (k : Int) = some ((1 * 2 ^ k % 2 ^ IntKind.u64.bits : Nat) : Int) := shl_nat (k := .u64) rfl 1 k
        simp only [e5, if_true, e6, Option.bind_some]
        rw [and_mask v k hv' hk4]
        exact fin
      · have e5 : decide ((k : Int) < 64) = false := by simp; omega
        have : k = 64 := by omega
        have e8 : (v : Int) = ((v % 2 ^ k : Nat) : Int) := by rw [this, Nat.mod_eq_of_lt hv']
        simp only [e5, Bool.false_eq_true, if_false]
        rw [← e8] at fin ⊢
        exact fin
  · have e1 : decide ((l.length : Int) ≤ 300) = false := by simp; omega
    simp [e1, law18_BitsBack_J1]
end Go.Proofs.Ytbcmdojknonpgaa
