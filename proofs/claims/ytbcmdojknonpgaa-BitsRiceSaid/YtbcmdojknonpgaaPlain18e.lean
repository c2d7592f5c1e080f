import Derived.Test.YtbcmdojknonpgaaPlain18d
set_option linter.unusedSimpArgs false
set_option linter.unusedVariables false
namespace Go.Proofs.Ytbcmdojknonpgaa
open Go Go.Vm

theorem Ok_nil : Ok [] 0 := ⟨by intro x hx; simp at hx, rfl, fun i _ h => by simp at h, by omega⟩
def codes (l : List Int) (k j : Nat) : List Bool := (l.take j).flatMap fun x => code (x.toNat % 4000) k
theorem codes_succ (l : List Int) (k : Nat) {j : Nat} (h : j < l.length) : codes l k (j + 1) = codes l k j ++ code (l[j].toNat % 4000) k := by
  unfold codes
  rw [List.take_succ_eq_append_getElem h]
  simp only [List.flatMap_append, List.flatMap_cons, List.flatMap_nil, List.append_nil]
theorem code_le (x k : Nat) (hk : k ≤ 32) : x % 4000 / 2 ^ k + 1 + k ≤ 4032 := by
  have : x % 4000 / 2 ^ k ≤ x % 4000 := Nat.div_le_self _ _
  omega
theorem codes_le (l : List Int) (k : Nat) (hk : k ≤ 32) : ∀ j, j ≤ l.length → (codes l k j).length ≤ 4032 * j
  | 0, _ => by simp [codes]
  | j + 1, h => by
    have := codes_le l k hk j (by omega)
    have h2 := code_le l[j].toNat k hk
    rw [codes_succ l k (by omega), List.length_append, code_length]
    omega
theorem codes_split (l : List Int) (k : Nat) {j : Nat} (h : j < l.length) : ∃ rest, codes l k l.length = codes l k j ++ (code (l[j].toNat % 4000) k ++ rest) := by
  refine ⟨(l.drop (j + 1)).flatMap fun x => code (x.toNat % 4000) k, ?_⟩
  unfold codes
  have : l.take l.length = l.take j ++ (l[j] :: l.drop (j + 1)) := by
    rw [List.take_length, ← List.drop_eq_getElem_cons h, List.take_append_drop]
  rw [this]
  simp only [List.flatMap_append, List.flatMap_cons]
theorem W16 {x : Int} (h : 0 ≤ x ∧ x < 65536) : Int.tmod (IntKind.u64.wrap x) 4000 = ((x.toNat % 4000 : Nat) : Int) := by
  rw [wu64 (by omega) (by omega)]
  obtain ⟨n, rfl⟩ := Int.eq_ofNat_of_zero_le h.1
  rw [show Int.tmod (n : Int) 4000 = ((n % 4000 : Nat) : Int) from tmod_nat n 4000]; simp
theorem RiceBack_L6 (N : Nat) (hNN : 70000 ≤ N) (l : List Int) (p : Int) (k : Nat) (hk : k ≤ 32) (hp : IntKind.i64.wrap (Int.tmod p 33) = (k : Int)) (hl : l.length ≤ 40) (hx : ∀ x ∈ l, 0 ≤ x ∧ x < 65536) :
    ∀ (m j : Nat), j ≤ l.length → l.length - j < m → law18_BitsRiceBack_L6 N l p m (j : Int) ((codes l k j).length : Int) (puts [] 0 (codes l k j)) = some (.brk (((codes l k l.length).length : Int), puts [] 0 (codes l k l.length)))
  | 0, j, _, hm => by omega
  | m + 1, j, hj, hm => by
    rw [law18_BitsRiceBack_L6]
    by_cases hjl : j < l.length
    · have e1 : decide ((j : Int) < (l.length : Int)) = true := by simpa using hjl
      have e2 := W16 (hx l[j] (List.getElem_mem hjl))
      have e3 : IntKind.i64.wrap ((j : Int) + 1) = ((j + 1 : Nat) : Int) := by rw [w64 (by omega) (by omega)]; simp
      have hlen := codes_le l k hk j hj
      have hcl := code_le l[j].toNat k hk
      have hok := (puts_ok (bs := codes l k j) Ok_nil (by omega)).1
      rw [Nat.zero_add] at hok
      have hv4 : l[j].toNat % 4000 < 4000 := Nat.mod_lt _ (by omega)
      have hA := AppendRice_eq N hNN _ _ hok (l[j].toNat % 4000) k (Nat.lt_of_lt_of_le hv4 (by decide)) hk
      have hS : shr .u64 ((l[j].toNat % 4000 : Nat) : Int) (k : Int) = some ((l[j].toNat % 4000 / 2 ^ k : Nat) : Int) := shr_nat (k := .u64) _ k (Nat.lt_of_lt_of_le hv4 (by decide))
      have hnext := RiceBack_L6 N hNN l p k hk hp hl hx m (j + 1) hjl (by omega)
      rw [codes_succ l k hjl, puts_append, List.length_append, code_length, Nat.zero_add] at hnext
      simp only [e1, if_true, idx_lt l hjl, Option.bind_some, e2, hp]
      generalize l[j].toNat % 4000 / 2 ^ k = o at *
      rw [hA (by omega) (by omega)]
      simp only [Option.bind_some, hS, bne_self_eq_false, Bool.false_eq_true, if_false]
      have e4 : IntKind.i64.wrap (IntKind.i64.wrap (IntKind.i64.wrap (((codes l k j).length : Int) + IntKind.i64.wrap (o : Int)) + 1) + (k : Int)) = (((codes l k j).length + (o + 1 + k) : Nat) : Int) := by
        rw [w64 (a := (o : Int)) (by omega) (by omega), w64 (a := ((codes l k j).length : Int) + _) (by omega) (by omega), w64 (a := ((codes l k j).length : Int) + _ + 1) (by omega) (by omega), w64 (by omega) (by omega)]
        omega
      rw [e4]
      simp only [bne_self_eq_false, law18_BitsRiceBack_J7, Bool.false_eq_true, if_false, e3]
      exact hnext
    · have e1 : decide ((j : Int) < (l.length : Int)) = false := by simp; omega
      have : j = l.length := by omega
      subst this
      simp only [e1, Bool.false_eq_true, if_false]
theorem RiceBack_L4 (N : Nat) (hNN : 70000 ≤ N) (l : List Int) (p : Int) (k : Nat) (hk : k ≤ 32) (hp : IntKind.i64.wrap (Int.tmod p 33) = (k : Int)) (hl : l.length ≤ 40) (hx : ∀ x ∈ l, 0 ≤ x ∧ x < 65536) :
    ∀ (m j : Nat), j ≤ l.length → l.length - j < m → law18_BitsRiceBack_L4 N l p ((codes l k l.length).length : Int) (puts [] 0 (codes l k l.length)) m ((codes l k j).length : Int) (j : Int) = some (.brk ((codes l k l.length).length : Int))
  | 0, j, _, hm => by omega
  | m + 1, j, hj, hm => by
    rw [law18_BitsRiceBack_L4]
    by_cases hjl : j < l.length
    · have e1 : decide ((j : Int) < (l.length : Int)) = true := by simpa using hjl
      have e2 := W16 (hx l[j] (List.getElem_mem hjl))
      have e3 : IntKind.i64.wrap ((j : Int) + 1) = ((j + 1 : Nat) : Int) := by rw [w64 (by omega) (by omega)]; simp
      have hlen := codes_le l k hk l.length (by omega)
      have hcl0 := code_le l[j].toNat k hk
      obtain ⟨rest, hsp⟩ := codes_split l k hjl
      have hv4 : l[j].toNat % 4000 < 4000 := Nat.mod_lt _ (by omega)
      have hcl : (codes l k j).length + (l[j].toNat % 4000 / 2 ^ k + 1 + k) ≤ (codes l k l.length).length := by
        rw [hsp]; simp only [List.length_append, code_length]; exact Nat.add_le_add_left (Nat.le_add_right _ _) _
      obtain ⟨hok, _, hbits⟩ := puts_ok (bs := codes l k l.length) Ok_nil (by omega)
      rw [Nat.zero_add] at hok
      have hR := ReadRice_code N hNN _ _ hok (codes l k j).length (l[j].toNat % 4000) k (Nat.lt_of_lt_of_le hv4 (by decide)) hk
      have hnext := RiceBack_L4 N hNN l p k hk hp hl hx m (j + 1) hjl (by omega)
      rw [show (codes l k (j + 1)).length = (codes l k j).length + (l[j].toNat % 4000 / 2 ^ k + 1 + k) by rw [codes_succ l k hjl, List.length_append, code_length]] at hnext
      have hcode : (code (l[j].toNat % 4000) k).length = l[j].toNat % 4000 / 2 ^ k + 1 + k := code_length _ _
      simp only [e1, if_true, idx_lt l hjl, Option.bind_some, e2, hp]
      generalize l[j].toNat % 4000 / 2 ^ k = o at *
      rw [hR (by omega) hcl (fun i hi => by
        have := hbits ((codes l k j).length + i) (by omega)
        rw [Nat.zero_add] at this
        rw [this, hsp, List.getD_eq_getElem?_getD, List.getElem?_append_right (by omega), show (codes l k j).length + i - (codes l k j).length = i by omega, List.getElem?_append_left (by rw [hcode]; exact hi), List.getD_eq_getElem?_getD])]
      simp only [Option.bind_some, bne_self_eq_false, Bool.false_eq_true, if_false, law18_BitsRiceBack_J5, e3]
      exact hnext
    · have e1 : decide ((j : Int) < (l.length : Int)) = false := by simp; omega
      have : j = l.length := by omega
      subst this
      simp only [e1, Bool.false_eq_true, if_false]
theorem BitsRiceBack_true (N : Nat) (hNN : 70000 ≤ N) (hsane : law18_sane N = some true) (l : List Int) (p : Int) (hx : ∀ x ∈ l, 0 ≤ x ∧ x < 65536) (hp : 0 ≤ p ∧ p < 256) : law18_BitsRiceBack N l p = some true := by
  unfold law18_BitsRiceBack
  rw [hsane]
  simp only [Option.bind_some, Bool.not_true, Bool.false_eq_true, if_false]
  by_cases hl : 40 < l.length
  · have e1 : decide (40 < (l.length : Int)) = true := by simp; omega
    simp only [e1, if_true]
  · have e1 : decide (40 < (l.length : Int)) = false := by simp; omega
    obtain ⟨q, rfl⟩ := Int.eq_ofNat_of_zero_le hp.1
    have e2 : IntKind.i64.wrap (Int.tmod (q : Int) 33) = ((q % 33 : Nat) : Int) := by rw [show Int.tmod (q : Int) 33 = ((q % 33 : Nat) : Int) from tmod_nat q 33, w64 (by omega) (by omega)]
    have hk : q % 33 ≤ 32 := by omega
    have h6 := RiceBack_L6 N hNN l (q : Int) (q % 33) hk e2 (by omega) hx N 0 (by omega) (by omega)
    have h4 := RiceBack_L4 N hNN l (q : Int) (q % 33) hk e2 (by omega) hx N 0 (by omega) (by omega)
    have hc0 : codes l (q % 33) 0 = [] := rfl
    rw [hc0] at h6 h4
    simp only [List.length_nil, puts] at h6 h4
    rw [show ((0 : Nat) : Int) = 0 from rfl] at h6 h4
    have hlen := codes_le l (q % 33) hk l.length (by omega)
    obtain ⟨hok, _, _⟩ := puts_ok (bs := codes l (q % 33) l.length) Ok_nil (by omega)
    rw [Nat.zero_add] at hok
    have := hok.len
    simp only [e1, Bool.false_eq_true, if_false, h6, Option.bind_some, law18_BitsRiceBack_J1, h4, law18_BitsRiceBack_J2, beq_self_eq_true, if_true]
    rw [bits_Valid_eq N _ _ hok.byt (by omega) ⟨by omega, by omega⟩, hok.valid]
    rfl

/-! ### Codes that are read -/
theorem run_end (l : List Int) (n : Nat) : ∀ d a, n - a = d → a ≤ n → ∃ e, a ≤ e ∧ e ≤ n ∧ (∀ i, a ≤ i → i < e → bitAt l i = true) ∧ (e = n ∨ bitAt l e = false) := by
  intro d
  induction d with
  | zero => intro a h1 h2; exact ⟨a, by omega, h2, fun i h3 h4 => by omega, .inl (by omega)⟩
  | succ d ih =>
    intro a h1 h2
    cases hb : bitAt l a with
    | false => exact ⟨a, by omega, h2, fun i h3 h4 => by omega, .inr hb⟩
    | true =>
      obtain ⟨e, h3, h4, h5, h6⟩ := ih (a + 1) (by omega) (by omega)
      refine ⟨e, by omega, h4, fun i h7 h8 => ?_, h6⟩
      by_cases hi : i = a
      · subst hi; exact hb
      · exact h5 i (by omega) h8
theorem num_testBit (l : List Int) (a : Nat) : ∀ (k j : Nat), j < k → (num l a k).testBit (k - 1 - j) = bitAt l (a + j)
  | 0, j, h => by omega
  | k + 1, j, h => by
    rw [num]
    by_cases hj : j = k
    · subst hj
      rw [show j + 1 - 1 - j = 0 by omega, Nat.testBit_zero]
      cases bitAt l (a + j) <;> simp <;> omega
    · rw [show k + 1 - 1 - j = (k - 1 - j) + 1 by omega, Nat.testBit_succ]
      rw [show (2 * num l a k + (bitAt l (a + k)).toNat) / 2 = num l a k by have := Bool.toNat_le (bitAt l (a + k)); omega]
      exact num_testBit l a k j (by omega)
theorem num_one (l : List Int) (a : Nat) : num l a 1 = (bitAt l a).toNat := by simp [num]
theorem BitsCodes_L5 (N : Nat) (hNN : 70000 ≤ N) (l c : List Int) (n q a : Nat) (e : Int) (h : Ok l n) (hc : Ok c q) (ha : a + q ≤ n) (ha8 : a < 256) (hs : ∀ i, i < q → bitAt c i = bitAt l (a + i)) :
    ∀ (m i : Nat), i ≤ q → q - i < m → law18_BitsCodes_L5 N l (n : Int) (a : Int) (c, (q : Int), e) m (i : Int) = some (.brk ())
  | 0, i, _, hm => by omega
  | m + 1, i, hi, hm => by
    have := h.max
    have := hc.max
    rw [law18_BitsCodes_L5]
    by_cases hiq : i < q
    · have e1 : decide ((i : Int) < (q : Int)) = true := by simpa using hiq
      have e2 : IntKind.i64.wrap (IntKind.i64.wrap (a : Int) + (i : Int)) = ((a + i : Nat) : Int) := by
        rw [w64 (a := (a : Int)) (by omega) (by omega), w64 (by omega) (by omega)]; simp
      have e3 : IntKind.i64.wrap ((i : Int) + 1) = ((i + 1 : Nat) : Int) := by rw [w64 (by omega) (by omega)]; simp
      have r1 : bits_Read N l (n : Int) ((a + i : Nat) : Int) 1 = some ((num l (a + i) 1 : Int), ((a + i + 1 : Nat) : Int), 0) := Read_eq N l n h (a + i) 1 (by omega) (by omega) (by omega)
      have r2 : bits_Read N c (q : Int) (i : Int) 1 = some ((num c i 1 : Int), ((i + 1 : Nat) : Int), 0) := Read_eq N c q hc i 1 (by omega) (by omega) (by omega)
      simp only [e1, if_true, e2, r1, r2, Option.bind_some, num_one, hs i hiq, bne_self_eq_false, Bool.false_eq_true, if_false, law18_BitsCodes_J6, e3]
      exact BitsCodes_L5 N hNN l c n q a e h hc ha ha8 hs m (i + 1) (by omega) (by omega)
    · have e1 : decide ((i : Int) < (q : Int)) = false := by simp; omega
      simp only [e1, Bool.false_eq_true, if_false]
theorem BitsCodes_true (N : Nat) (hNN : 70000 ≤ N) (hsane : law18_sane N = some true) (l : List Int) (n a8 p8 : Int) (hb : Byt l) (hn : -9223372036854775808 ≤ n ∧ n ≤ 9223372036854775807) (ha : 0 ≤ a8 ∧ a8 < 256) (hp : 0 ≤ p8 ∧ p8 < 256) : law18_BitsCodes N l n a8 p8 = some true := by
  unfold law18_BitsCodes law18_kept
  rw [hsane]
  simp only [Option.bind_some, Bool.not_true, Bool.false_eq_true, if_false]
  by_cases hl : l.length ≤ 300
  · have e1 : decide ((l.length : Int) ≤ 300) = true := by simp; omega
    simp only [e1, Bool.not_true, Bool.false_eq_true, if_false]
    rw [bits_Valid_eq N l n hb (by omega) hn]
    simp only [Option.bind_some]
    cases hval : validB l n with
    | false => simp [law18_BitsCodes_J1]
    | true =>
      have hn0 : 0 ≤ n := by simp [validB] at hval; omega
      obtain ⟨n, rfl⟩ := Int.eq_ofNat_of_zero_le hn0
      obtain ⟨a, rfl⟩ := Int.eq_ofNat_of_zero_le ha.1
      obtain ⟨q, rfl⟩ := Int.eq_ofNat_of_zero_le hp.1
      have h := validB_ok hb hval
      have hlen := h.len
      have e2 : IntKind.i64.wrap (Int.tmod (q : Int) 33) = ((q % 33 : Nat) : Int) := by rw [show Int.tmod (q : Int) 33 = ((q % 33 : Nat) : Int) from tmod_nat q 33, w64 (by omega) (by omega)]
      have e3 : IntKind.i64.wrap (a : Int) = (a : Int) := w64 (by omega) (by omega)
      have hp32 : q % 33 ≤ 32 := by omega
      unfold law18_BitsCodes_J1
      simp only [Bool.not_true, Bool.false_eq_true, if_false, e2, e3]
      generalize q % 33 = k at *
      by_cases han : a ≤ n
      · obtain ⟨e, h1, h2, h3, h4⟩ := run_end l n (n - a) a rfl han
        rw [ReadRice_eq N hNN l n h a k e hp32 h1 h2 (by omega) h3 h4]
        by_cases hs : n - e < 1 + k
        · simp [hs, law18_BitsCodes_J2]
        · simp only [hs, if_false, Option.bind_some, bne_self_eq_false, Bool.false_eq_true]
          have hnum := num_lt l (e + 1) k
          have hb1 : (e - a) * 2 ^ k ≤ 2400 * 2 ^ 32 := Nat.mul_le_mul (by omega) (Nat.pow_le_pow_right (by omega) hp32)
          have hb2 : 2 ^ k ≤ 2 ^ 32 := Nat.pow_le_pow_right (by omega) hp32
          have hdiv : ((e - a) * 2 ^ k + num l (e + 1) k) / 2 ^ k = e - a := by
            rw [Nat.mul_comm, Nat.mul_add_div (Nat.two_pow_pos k), Nat.div_eq_of_lt hnum, Nat.add_zero]
          have hA := AppendRice_eq N hNN [] 0 Ok_nil ((e - a) * 2 ^ k + num l (e + 1) k) k (by omega) hp32 (by rw [hdiv]; omega) (by rw [hdiv]; omega)
          rw [show ((0 : Nat) : Int) = 0 from rfl] at hA
          rw [hA]
          simp only [Option.bind_some, bne_self_eq_false, Bool.false_eq_true, if_false, hdiv, Nat.zero_add]
          have e5 : IntKind.i64.wrap ((a : Int) + ((e - a + 1 + k : Nat) : Int)) = ((e + 1 + k : Nat) : Int) := by rw [w64 (by omega) (by omega)]; omega
          rw [e5]
          simp only [bne_self_eq_false, law18_BitsCodes_J3, Bool.false_eq_true, if_false]
          obtain ⟨hok, _, hbits⟩ := puts_ok (bs := code ((e - a) * 2 ^ k + num l (e + 1) k) k) Ok_nil (by rw [code_length, hdiv]; omega)
          rw [code_length, hdiv, Nat.zero_add] at hok
          have hL := BitsCodes_L5 N hNN l _ n (e - a + 1 + k) a 0 h hok (by omega) (by omega) (fun i hi => by
            have hbi := hbits i (by rw [code_length, hdiv]; exact hi)
            rw [Nat.zero_add] at hbi
            rw [hbi, code_get, hdiv]
            by_cases c1 : i < e - a
            · rw [if_pos c1, h3 (a + i) (by omega) (by omega)]
            · rw [if_neg c1]
              by_cases c2 : i = e - a
              · rw [if_pos c2]
                have : bitAt l e = false := by
                  rcases h4 with h4 | h4
                  · omega
                  · exact h4
                rw [show a + i = e by omega, this]
              · rw [if_neg c2]
                have hj : i - (e - a + 1) < k := by omega
                rw [List.getD_eq_getElem?_getD, List.getElem?_eq_getElem (by simp [bitsOf]; exact hj)]
                simp only [bitsOf, Option.getD_some, List.getElem_map, List.getElem_range]
                have hmod : ((e - a) * 2 ^ k + num l (e + 1) k).testBit (k - 1 - (i - (e - a + 1))) = (num l (e + 1) k).testBit (k - 1 - (i - (e - a + 1))) := by
                  rw [Nat.mul_comm, Nat.testBit_two_pow_mul_add _ hnum, if_pos (by omega)]
                rw [hmod, num_testBit l (e + 1) k _ hj]
                congr 1; omega) N 0 (by omega) (by omega)
          rw [show ((0 : Nat) : Int) = 0 from rfl] at hL
          rw [hL]; rfl
      · -- the place is behind the end
        have hmx := h.max
        have hR : bits_ReadRice N l (n : Int) (a : Int) (k : Int) = some (0, 0, 5) := by
          unfold bits_ReadRice bits_ReadRice_J1
          rw [bits_Valid_eq N l n h.byt (by omega) ⟨by omega, by omega⟩, h.valid]
          have c1 : decide ((k : Int) < 0) = false := by simp
          have c2 : decide (32 < (k : Int)) = false := by simp; omega
          have c3 : decide ((a : Int) < 0) = false := by simp
          have c4 : decide ((n : Int) < (a : Int)) = true := by simp; omega
          simp only [Option.bind_some, Bool.not_true, Bool.false_eq_true, if_false, c1, c2, c3, c4, if_true]
        rw [hR]; rfl
  · have e1 : decide ((l.length : Int) ≤ 300) = false := by simp; omega
    simp [e1, law18_BitsCodes_J1]
end Go.Proofs.Ytbcmdojknonpgaa
