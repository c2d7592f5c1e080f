import Derived.Test.YtbcmdojknonpgaaPlain18f
set_option linter.unusedSimpArgs false
set_option linter.unusedVariables false
namespace Go.Proofs.Ytbcmdojknonpgaa
open Go Go.Vm

/-! ### The reference's Rice codes -/
theorem ref18_Rice_L7_eq (N v p : Nat) :
    ∀ (m o : Nat) (l : List Int) (n : Nat), o < m → o ≤ 65536 → Ok l n → n + o ≤ 1600000 → ref18_AppendRice_L7 N (v : Int) (p : Int) m (o : Int) (n : Int) l = some (((n + o : Nat) : Int), puts l n (List.replicate o true))
  | 0, o, l, n, hm, _, _, _ => by omega
  | m + 1, 0, l, n, hm, ho, h, hn => by
    rw [ref18_AppendRice_L7]
    simp [puts]
  | m + 1, o + 1, l, n, hm, ho, h, hn => by
    rw [ref18_AppendRice_L7]
    have e1 : decide (0 < ((o + 1 : Nat) : Int)) = true := by simp only [decide_eq_true_eq]; omega
    have e3 : IntKind.u64.wrap (((o + 1 : Nat) : Int) - 1) = (o : Int) := by rw [wu64 (by omega) (by omega)]; omega
    simp only [e1, if_true, e3]
    rw [ref18_put_eq N l n true h (by omega)]
    simp only [Option.bind_some]
    obtain ⟨h1, _, _⟩ := putL_ok true h (by omega)
    rw [ref18_Rice_L7_eq N v p m o _ (n + 1) (by omega) (by omega) h1 (by omega)]
    rw [List.replicate_succ, puts]
    congr 2
    congr 1
    omega
theorem rice_sum (n ones p : Nat) (hn : n ≤ 1600000) (ho : ones ≤ 65536) (hp : p ≤ 32) : IntKind.i64.wrap (IntKind.i64.wrap (IntKind.i64.wrap ((n : Int) + IntKind.i64.wrap (ones : Int)) + 1) + (p : Int)) = ((n + (ones + 1 + p) : Nat) : Int) := by
  rw [w64 (a := (ones : Int)) (by omega) (by omega), w64 (a := (n : Int) + (ones : Int)) (by omega) (by omega), w64 (a := (n : Int) + (ones : Int) + 1) (by omega) (by omega), w64 (by omega) (by omega)]
  omega
theorem AppendRice_far (N : Nat) (l : List Int) (n : Nat) (h : Ok l n) (v p ones : Nat) (hp : p ≤ 32) (hs : shr .u64 (v : Int) (p : Int) = some (ones : Int)) (hn : 65536 < ones ∨ 1600000 < n + (ones + 1 + p)) : bits_AppendRice N l (n : Int) (v : Int) (p : Int) = some ([], 0, 4) := by
  have := h.max
  have := h.len
  unfold bits_AppendRice bits_AppendRice_J1 bits_AppendRice_J2
  rw [bits_Valid_eq N l n h.byt (by omega) ⟨by omega, by omega⟩, h.valid]
  have e1 : decide ((p : Int) < 0) = false := by simp
  have e2 : decide (32 < (p : Int)) = false := by simp; omega
  simp only [Option.bind_some, Bool.not_true, Bool.false_eq_true, if_false, e1, e2, hs]
  by_cases ho : 65536 < ones
  · have e3 : decide (65536 < (ones : Int)) = true := by simp; omega
    simp only [e3, if_true]
  · have e3 : decide (65536 < (ones : Int)) = false := by simp; omega
    have e4 : decide (1600000 < ((n + (ones + 1 + p) : Nat) : Int)) = true := by simp only [decide_eq_true_eq]; omega
    rw [rice_sum n ones p (by omega) (by omega) hp]
    simp only [e3, e4, Bool.false_eq_true, if_false, if_true]
theorem ref18_AppendRice_far (N : Nat) (hNN : 70000 ≤ N) (l : List Int) (n : Nat) (h : Ok l n) (hl : l.length ≤ 5000) (v p ones : Nat) (hp : p ≤ 32) (hs : shr .u64 (v : Int) (p : Int) = some (ones : Int)) (hn : 65536 < ones ∨ 1600000 < n + (ones + 1 + p)) : ref18_AppendRice N l (n : Int) (v : Int) (p : Int) = some ([], 0, 4) := by
  have := h.max
  have := h.len
  unfold ref18_AppendRice ref18_AppendRice_J1 ref18_AppendRice_J2
  rw [ref18_Valid_eq N l n h.byt hl hNN ⟨by omega, by omega⟩, h.valid]
  have e1 : decide ((p : Int) < 0) = false := by simp
  have e2 : decide (32 < (p : Int)) = false := by simp; omega
  simp only [Option.bind_some, Bool.not_true, Bool.false_eq_true, if_false, e1, e2, hs]
  by_cases ho : 65536 < ones
  · have e3 : decide (65536 < (ones : Int)) = true := by simp; omega
    simp only [e3, if_true]
  · have e3 : decide (65536 < (ones : Int)) = false := by simp; omega
    have e4 : decide (1600000 < ((n + (ones + 1 + p) : Nat) : Int)) = true := by simp only [decide_eq_true_eq]; omega
    rw [rice_sum n ones p (by omega) (by omega) hp]
    simp only [e3, e4, Bool.false_eq_true, if_false, if_true]
theorem ref18_AppendRice_near (N : Nat) (hNN : 70000 ≤ N) (l : List Int) (n : Nat) (h : Ok l n) (hl : l.length ≤ 5000) (v p ones : Nat) (hv : v < 2 ^ 64) (hp : p ≤ 32) (hs : shr .u64 (v : Int) (p : Int) = some (ones : Int)) (ho : ones ≤ 65536) (hn : n + (ones + 1 + p) ≤ 1600000) : ref18_AppendRice N l (n : Int) (v : Int) (p : Int) = some (puts l n (List.replicate ones true ++ ([false] ++ bitsOf v p)), ((n + (ones + 1 + p) : Nat) : Int), 0) := by
  have := h.max
  have := h.len
  unfold ref18_AppendRice ref18_AppendRice_J1 ref18_AppendRice_J2 ref18_AppendRice_J3 ref18_AppendRice_J4
  rw [ref18_Valid_eq N l n h.byt hl hNN ⟨by omega, by omega⟩, h.valid]
  have e1 : decide ((p : Int) < 0) = false := by simp
  have e2 : decide (32 < (p : Int)) = false := by simp; omega
  simp only [Option.bind_some, Bool.not_true, Bool.false_eq_true, if_false, e1, e2, hs]
  have e3 : decide (65536 < (ones : Int)) = false := by simp; omega
  have e4 : decide (1600000 < ((n + (ones + 1 + p) : Nat) : Int)) = false := by simp only [decide_eq_false_iff_not]; omega
  rw [rice_sum n ones p (by omega) (by omega) hp]
  simp only [e3, e4, Bool.false_eq_true, if_false]
  rw [Join_eq N l (by omega) hNN]
  simp only [Option.bind_some]
  rw [ref18_Rice_L7_eq N v p N ones l n (by omega) ho h (by omega)]
  simp only [Option.bind_some]
  obtain ⟨h1, _, _⟩ := puts_ok (bs := List.replicate ones true) h (by simp; omega)
  simp only [List.length_replicate] at h1
  rw [ref18_put_eq N _ (n + ones) false h1 (by omega)]
  simp only [Option.bind_some]
  obtain ⟨h2, _, _⟩ := putL_ok false h1 (by omega)
  have e5 : IntKind.i64.wrap ((p : Int) - 1) = (p : Int) - 1 - ((0 : Nat) : Int) := by rw [w64 (by omega) (by omega)]; simp
  rw [e5, ref_bits_L N v p hv (by omega) (ref18_AppendRice_L6 N v) (fun m i n l => by rw [ref18_AppendRice_L6]) N 0 _ (n + ones + 1) (by omega) (by omega) h2 (by omega)]
  simp only [Option.bind_some, ref18_AppendRice_J5, List.drop_zero, Nat.sub_zero]
  rw [puts_append, puts_append]
  simp only [List.length_replicate, List.length_cons, List.length_nil, puts]
  congr 3
  congr 1
  omega
theorem BitsRice_true (N : Nat) (hNN : 70000 ≤ N) (hsane : law18_sane N = some true) (l : List Int) (n v k : Int) (hb : Byt l) (hn : -9223372036854775808 ≤ n ∧ n ≤ 9223372036854775807) (hv : 0 ≤ v ∧ v < 18446744073709551616) (hk : -9223372036854775808 ≤ k ∧ k ≤ 9223372036854775807) : law18_BitsRice N l n v k = some true := by
  unfold law18_BitsRice law18_kept
  rw [hsane]
  simp only [Option.bind_some, Bool.not_true, Bool.false_eq_true, if_false]
  by_cases hl : l.length ≤ 300
  · have e1 : decide ((l.length : Int) ≤ 300) = true := by simp; omega
    simp only [e1, Bool.not_true, Bool.false_eq_true, if_false]
    have hP : ∃ r, bits_AppendRice N l n v k = some r ∧ ref18_AppendRice N l n v k = some r := by
      cases hval : validB l n with
      | false =>
        refine ⟨([], 0, 6), ?_, ?_⟩
        · unfold bits_AppendRice; rw [bits_Valid_eq N l n hb (by omega) hn, hval]; rfl
        · unfold ref18_AppendRice; rw [ref18_Valid_eq N l n hb (by omega) hNN hn, hval]; rfl
      | true =>
        by_cases hr : k < 0 ∨ 32 < k
        · refine ⟨([], 0, 5), ?_, ?_⟩
          · unfold bits_AppendRice bits_AppendRice_J1
            rw [bits_Valid_eq N l n hb (by omega) hn, hval]
            rcases hr with hr | hr
            · simp [hr]
            · have : decide (k < 0) = false := by simp; omega
              simp [this, hr]
          · unfold ref18_AppendRice ref18_AppendRice_J1
            rw [ref18_Valid_eq N l n hb (by omega) hNN hn, hval]
            rcases hr with hr | hr
            · simp [hr]
            · have : decide (k < 0) = false := by simp; omega
              simp [this, hr]
        · have hn0 : 0 ≤ n := by simp [validB] at hval; omega
          obtain ⟨n, rfl⟩ := Int.eq_ofNat_of_zero_le hn0
          obtain ⟨v, rfl⟩ := Int.eq_ofNat_of_zero_le hv.1
          obtain ⟨k, rfl⟩ := Int.eq_ofNat_of_zero_le (show 0 ≤ k by omega)
          have h := validB_ok hb hval
          have hv2 : v < 2 ^ 64 := by omega
          have hs := shr_nat (k := .u64) v k hv2
          generalize v / 2 ^ k = o at hs
          by_cases hfar : 65536 < o ∨ 1600000 < n + (o + 1 + k)
          · exact ⟨_, AppendRice_far N l n h v k o (by omega) hs hfar, ref18_AppendRice_far N hNN l n h (by omega) v k o (by omega) hs hfar⟩
          · exact ⟨_, AppendRice_aux N hNN l n h v k o hv2 (by omega) hs (by omega) (by omega), ref18_AppendRice_near N hNN l n h (by omega) v k o hv2 (by omega) hs (by omega) (by omega)⟩
    obtain ⟨r, h1, h2⟩ := hP
    rw [h1, h2]
    simp only [Option.bind_some]
    simp only [Option.bind_some, beq_self_eq_true, if_true, Same_self, law18_BitsRice_J1]
  · have e1 : decide ((l.length : Int) ≤ 300) = false := by simp; omega
    simp only [e1, Bool.not_false, if_true]
end Go.Proofs.Ytbcmdojknonpgaa
