import Derived.Test.YtidkaiebgjbekaaDoorPlainE
set_option linter.unusedSimpArgs false
set_option linter.unusedVariables false
namespace Go.Proofs.YtidkaiebgjbekaaDoor
open Go Go.Vm

/-! ### Small letters -/
def low (x : Nat) : Nat := if 65 ≤ x ∧ x ≤ 90 then x + 32 else x
def isL (x : Nat) : Bool := decide (97 ≤ x) && decide (x ≤ 122)
def isU (x : Nat) : Bool := decide (65 ≤ x) && decide (x ≤ 90)
theorem idx_mid (A B : List Nat) (x : Nat) {j : Nat} (hj : A.length = j) : idx (iN (A ++ x :: B)) (j : Int) = some (x : Int) := by
  subst hj
  rw [iN_idx _ (by simp)]; simp
theorem set_mid (A B : List Nat) (x y : Nat) {j : Nat} (hj : A.length = j) : (iN (A ++ x :: B)).set j (y : Int) = iN (A ++ y :: B) := by
  subst hj
  simp only [iN, List.map_append, List.map_cons, List.map_nil]
  rw [List.set_append_right _ _ (by simp)]
  simp
theorem dle {a b : Nat} : decide ((a : Int) ≤ (b : Int)) = decide (a ≤ b) := by simp
theorem dle1 (a x : Nat) : decide ((a : Int) ≤ ((x : Nat) : Int)) = decide (a ≤ x) := by simp
theorem low_w (x : Nat) (h1 : 65 ≤ x) (h2 : x ≤ 90) : IntKind.u8.wrap (IntKind.u8.wrap ((x : Int) - 65) + 97) = ((x + 32 : Nat) : Int) ∧ IntKind.u8.wrap ((x : Int) + 32) = ((x + 32 : Nat) : Int) := by
  constructor
  · rw [wu8 (a := (x : Int) - 65) (by omega) (by omega), wu8 (by omega) (by omega)]; omega
  · rw [wu8 (by omega) (by omega)]; omega
theorem small_L3_eq (N : Nat) (L : List Int) (hL : L.length ≤ 1000) : ∀ (B A : List Nat) (m : Nat) (lo up : Bool), B.length < m → A.length + B.length = L.length →
    address_small_L3 N L m lo up ((A.length : Nat) : Int) (iN (A ++ B)) = some (lo || B.any isL, up || B.any isU, iN (A ++ B.map low))
  | [], A, m, lo, up, hm, hl => by
    obtain ⟨m, rfl⟩ : ∃ q, m = q + 1 := ⟨m - 1, by omega⟩
    rw [address_small_L3]
    have e1 : decide (((A.length : Nat) : Int) < (L.length : Int)) = false := by simp at hl ⊢; omega
    simp only [e1, Bool.false_eq_true, if_false, List.any_nil, Bool.or_false, List.map_nil]
  | x :: B, A, m, lo, up, hm, hl => by
    obtain ⟨m, rfl⟩ : ∃ q, m = q + 1 := ⟨m - 1, by omega⟩
    simp only [List.length_cons] at hm hl
    rw [address_small_L3]
    have e1 : decide (((A.length : Nat) : Int) < (L.length : Int)) = true := by simp; omega
    have ih := fun (y : Nat) (lo' up' : Bool) => small_L3_eq N L hL B (A ++ [y]) m lo' up' (by omega) (by simp; omega)
    simp only [List.length_append, List.length_cons, List.length_nil, Nat.zero_add, List.append_assoc, List.cons_append, List.nil_append] at ih
    simp only [e1, if_true, idx_mid A B x rfl, Option.bind_some, List.any_cons, List.map_cons]
    by_cases h1 : 97 ≤ x
    · have d1 : decide ((97 : Int) ≤ (x : Int)) = true := by simp; omega
      have u0 : isU x = false := by simp [isU]; omega
      have l0 : low x = x := by unfold low; rw [if_neg (by omega)]
      by_cases h2 : x ≤ 122
      · have d2 : decide ((x : Int) ≤ 122) = true := by simp; omega
        have i1' : isL x = true := by simp [isL]; omega
        simp only [d1, d2, if_true, address_small_J5, address_small_J4, i1 (show A.length ≤ 100000 by omega), ih, i1', u0, l0, Bool.true_or, Bool.or_true, Bool.false_or]
      · have d2 : decide ((x : Int) ≤ 122) = false := by simp; omega
        have d3 : decide ((65 : Int) ≤ (x : Int)) = true := by simp; omega
        have d4 : decide ((x : Int) ≤ 90) = false := by simp; omega
        have i1' : isL x = false := by simp [isL]; omega
        simp only [d1, d2, d3, d4, if_true, Bool.false_eq_true, if_false, address_small_J5, address_small_J6, address_small_J4, i1 (show A.length ≤ 100000 by omega), ih, i1', u0, l0, Bool.false_or]
    · have d1 : decide ((97 : Int) ≤ (x : Int)) = false := by simp; omega
      have i1' : isL x = false := by simp [isL]; omega
      by_cases h2 : 65 ≤ x
      · have d3 : decide ((65 : Int) ≤ (x : Int)) = true := by simp; omega
        by_cases h3 : x ≤ 90
        · have d4 : decide ((x : Int) ≤ 90) = true := by simp; omega
          have u0 : isU x = true := by simp [isU]; omega
          have l0 : low x = x + 32 := by unfold low; rw [if_pos ⟨h2, h3⟩]
          simp only [d1, d3, d4, if_true, Bool.false_eq_true, if_false, address_small_J5, address_small_J6, address_small_J4, i1 (show A.length ≤ 100000 by omega), (low_w x h2 h3).1, Int.toNat_natCast, set_mid A B x (x + 32) rfl, ih, i1', u0, l0, Bool.false_or, Bool.true_or, Bool.or_true]
        · have d4 : decide ((x : Int) ≤ 90) = false := by simp; omega
          have u0 : isU x = false := by simp [isU]; omega
          have l0 : low x = x := by unfold low; rw [if_neg (by omega)]
          simp only [d1, d3, d4, if_true, Bool.false_eq_true, if_false, address_small_J5, address_small_J6, address_small_J4, i1 (show A.length ≤ 100000 by omega), ih, i1', u0, l0, Bool.false_or]
      · have d3 : decide ((65 : Int) ≤ (x : Int)) = false := by simp; omega
        have u0 : isU x = false := by simp [isU]; omega
        have l0 : low x = x := by unfold low; rw [if_neg (by omega)]
        simp only [d1, d3, if_true, Bool.false_eq_true, if_false, address_small_J5, address_small_J6, address_small_J4, i1 (show A.length ≤ 100000 by omega), ih, i1', u0, l0, Bool.false_or]
theorem rsmall_L3_eq (N : Nat) : ∀ (B A : List Nat) (m : Nat) (lo up : Bool), B.length < m → A.length + B.length ≤ 1000 →
    ref27_small_L3 N m lo up ((A.length : Nat) : Int) (iN (A ++ B)) = some (lo || B.any isL, up || B.any isU, iN (A ++ B.map low))
  | [], A, m, lo, up, hm, hl => by
    obtain ⟨m, rfl⟩ : ∃ q, m = q + 1 := ⟨m - 1, by omega⟩
    rw [ref27_small_L3, iN_len]
    have e1 : decide (((A.length : Nat) : Int) < ((A ++ ([] : List Nat)).length : Int)) = false := by simp
    simp only [e1, Bool.false_eq_true, if_false, List.any_nil, Bool.or_false, List.map_nil]
  | x :: B, A, m, lo, up, hm, hl => by
    obtain ⟨m, rfl⟩ : ∃ q, m = q + 1 := ⟨m - 1, by omega⟩
    simp only [List.length_cons] at hm hl
    rw [ref27_small_L3, iN_len]
    have e1 : decide (((A.length : Nat) : Int) < ((A ++ x :: B).length : Int)) = true := by simp; omega
    have ih := fun (y : Nat) (lo' up' : Bool) => rsmall_L3_eq N B (A ++ [y]) m lo' up' (by omega) (by simp; omega)
    simp only [List.length_append, List.length_cons, List.length_nil, Nat.zero_add, List.append_assoc, List.cons_append, List.nil_append] at ih
    have key : ∀ (lo' : Bool), ref27_small_J5 N up ((A.length : Nat) : Int) (iN (A ++ x :: B)) (ref27_small_L3 N m) lo' = some (lo' || B.any isL, (up || isU x) || B.any isU, iN (A ++ low x :: B.map low)) := by
      intro lo'
      unfold ref27_small_J5
      rw [idx_mid A B x rfl]
      simp only [Option.bind_some]
      by_cases h2 : 65 ≤ x
      · have d3 : decide ((65 : Int) ≤ (x : Int)) = true := by simp; omega
        by_cases h3 : x ≤ 90
        · have d4 : decide ((x : Int) ≤ 90) = true := by simp; omega
          have u0 : isU x = true := by simp [isU]; omega
          have l0 : low x = x + 32 := by unfold low; rw [if_pos ⟨h2, h3⟩]
          simp only [d3, d4, if_true, ref27_small_J6, idx_mid A B x rfl, Option.bind_some, ref27_small_J4, i1 (show A.length ≤ 100000 by omega), (low_w x h2 h3).2, Int.toNat_natCast, set_mid A B x (x + 32) rfl, ih, u0, l0, Bool.true_or, Bool.or_true]
        · have d4 : decide ((x : Int) ≤ 90) = false := by simp; omega
          have u0 : isU x = false := by simp [isU]; omega
          have l0 : low x = x := by unfold low; rw [if_neg (by omega)]
          simp only [d3, d4, if_true, Bool.false_eq_true, if_false, ref27_small_J6, ref27_small_J4, i1 (show A.length ≤ 100000 by omega), ih, u0, l0, Bool.or_false]
      · have d3 : decide ((65 : Int) ≤ (x : Int)) = false := by simp; omega
        have u0 : isU x = false := by simp [isU]; omega
        have l0 : low x = x := by unfold low; rw [if_neg (by omega)]
        simp only [d3, Bool.false_eq_true, if_false, ref27_small_J6, ref27_small_J4, i1 (show A.length ≤ 100000 by omega), ih, u0, l0, Bool.or_false]
    simp only [e1, if_true, List.any_cons, List.map_cons]
    cases lo with
    | true => simp only [if_true, key, Bool.true_or, Bool.or_assoc]
    | false =>
      simp only [Bool.false_eq_true, if_false, idx_mid A B x rfl, Option.bind_some, key]
      by_cases h1 : 97 ≤ x
      · have d1 : decide ((97 : Int) ≤ (x : Int)) = true := by simp; omega
        have d2 : decide ((x : Int) ≤ 122) = isL x := by
          have d5 : decide (97 ≤ x) = true := by simp; omega
          unfold isL
          rw [d5, Bool.true_and]
          by_cases h2 : x ≤ 122
          · simp [h2]; omega
          · simp [h2]; omega
        simp only [d1, if_true, d2, Bool.false_or, Bool.or_assoc]
      · have d1 : decide ((97 : Int) ≤ (x : Int)) = false := by simp; omega
        have i1' : isL x = false := by simp [isL]; omega
        simp only [d1, Bool.false_eq_true, if_false, i1', Bool.false_or, Bool.or_assoc]
def small27 (s : ByteArray) : ByteArray × Bool := (mkS ((bs s).map low), (bs s).any isL && (bs s).any isU)
theorem small_eq (N : Nat) (hN : 70000 ≤ N) (s : ByteArray) (hs : s.size ≤ 1000) : address_small N s = some (small27 s) := by
  have hb := bs_len s
  have h := small_L3_eq N (iN (bs s)) (by rw [iN_len]; omega) (bs s) [] N false false (by omega) (by simp [iN_len])
  simp only [List.nil_append, List.length_nil, show ((0 : Nat) : Int) = 0 from rfl, Bool.false_or] at h
  unfold address_small
  simp only [stb_ok (s := s) (by omega), Option.bind_some, h, address_small_J1, address_small_J2, strOf_iN, small27]
  cases (bs s).any isL <;> simp
theorem rsmall_eq (N : Nat) (hN : 70000 ≤ N) (s : ByteArray) (hs : s.size ≤ 1000) : ref27_small N s = some (small27 s) := by
  have hb := bs_len s
  have h := rsmall_L3_eq N (bs s) [] N false false (by omega) (by simp; omega)
  simp only [List.nil_append, List.length_nil, show ((0 : Nat) : Int) = 0 from rfl, Bool.false_or] at h
  unfold ref27_small
  simp only [stb_ok (s := s) (by omega), Option.bind_some, h, ref27_small_J1, ref27_small_J2, strOf_iN, small27]
  cases (bs s).any isL <;> simp
/-! ### Digits of characters -/
def dI (c : Nat) : Option Nat := (List.range 32).find? fun i => ch i == c
def dV (o : Option Nat) : Int := match o with
  | some i => i
  | none => -1
theorem ixb_eq : ∀ c : Nat, c < 256 → ixb CH (c : Int) = dV (dI c) := by decide +kernel
theorem digit_L2_eq (N : Nat) (c : Nat) : ∀ (k m j : Nat), k < m → j + k = 32 → ref27_digit_L2 N (c : Int) m (j : Int) = some (match (List.range' j k).find? (fun i => ch i == c) with | some i => .ret (i : Int) | none => .brk ())
  | 0, m, j, hm, hj => by
    obtain ⟨m, rfl⟩ : ∃ q, m = q + 1 := ⟨m - 1, by omega⟩
    rw [ref27_digit_L2]
    have e1 : decide ((j : Int) < 32) = false := by simp; omega
    simp [e1]
  | k + 1, m, j, hm, hj => by
    obtain ⟨m, rfl⟩ : ∃ q, m = q + 1 := ⟨m - 1, by omega⟩
    rw [ref27_digit_L2]
    have e1 : decide ((j : Int) < 32) = true := by simp; omega
    have ih := digit_L2_eq N c k m (j + 1) (by omega) (by omega)
    simp only [e1, if_true, ch_idx (show j < 32 by omega), Option.bind_some, List.range'_succ, List.find?_cons, i1 (show j ≤ 100000 by omega), ih]
    by_cases h : ch j = c
    · simp [h]
    · have h' : (((ch j : Nat) : Int) == (c : Int)) = false := by simp; omega
      have h'' : (ch j == c) = false := by simpa using h
      simp only [h', h'', Bool.false_eq_true, if_false]
theorem digit_eq (N : Nat) (hN : 70000 ≤ N) (c : Nat) : ref27_digit N (c : Int) = some (dV (dI c)) := by
  unfold ref27_digit
  have := digit_L2_eq N c 32 N 0 (by omega) (by omega)
  rw [show ((0 : Nat) : Int) = 0 from rfl] at this
  rw [this]
  unfold dI dV
  rw [List.range_eq_range']
  cases (List.range' 0 32).find? (fun i => ch i == c) <;> rfl
theorem dI_lt {c i : Nat} (h : dI c = some i) : i < 32 := by
  have := List.mem_of_find?_eq_some h
  simpa using this
def digs : List Nat → Option (List Nat)
  | [] => some []
  | c :: l => match dI c, digs l with
    | some i, some r => some (i :: r)
    | _, _ => none
theorem digs_lt : ∀ {l ds : List Nat}, digs l = some ds → (∀ x ∈ ds, x < 32) ∧ ds.length = l.length
  | [], ds, h => by simp only [digs, Option.some.injEq] at h; subst h; simp
  | c :: l, ds, h => by
    simp only [digs] at h
    split at h
    · rename_i i r h1 h2
      injection h with h
      subst h
      obtain ⟨k1, k2⟩ := digs_lt h2
      refine ⟨?_, by simp [k2]⟩
      intro x hx
      simp only [List.mem_cons] at hx
      rcases hx with rfl | hx
      · exact dI_lt h1
      · exact k1 x hx
    · cases h
theorem bs_get {s : ByteArray} {C B : List Nat} {x : Nat} (h : bs s = C ++ x :: B) {j : Nat} (hj : C.length = j) : sidx s (j : Int) = some (x : Int) := by
  subst hj
  rw [sidx_eq s (by rw [h]; simp)]
  simp [h]
theorem Decode_L2_eq (N : Nat) (p : ByteArray) (R : ByteArray × Bool) (hR : R.1.size ≤ 1000) : ∀ (B C A : List Nat) (m : Nat), bs R.1 = C ++ B → C.length = A.length → B.length < m →
    address_Decode_L2 N p R m ((A.length : Nat) : Int) (iN (A ++ List.replicate B.length 0)) = some (match digs B with | some ds => .brk (iN (A ++ ds)) | none => .ret ([], 7))
  | [], C, A, m, hB, hC, hm => by
    obtain ⟨m, rfl⟩ : ∃ q, m = q + 1 := ⟨m - 1, by omega⟩
    have hl := congrArg List.length hB
    rw [bs_len] at hl
    simp at hl
    rw [address_Decode_L2]
    have e1 : decide (((A.length : Nat) : Int) < (R.1.size : Int)) = false := by simp; omega
    simp only [e1, Bool.false_eq_true, if_false, digs, List.length_nil, List.replicate_zero, List.append_nil]
  | x :: B, C, A, m, hB, hC, hm => by
    obtain ⟨m, rfl⟩ : ∃ q, m = q + 1 := ⟨m - 1, by omega⟩
    have hl := congrArg List.length hB
    rw [bs_len] at hl
    simp only [List.length_append, List.length_cons] at hl hm
    have hx : x < 256 := bs_lt R.1 x (by rw [hB]; simp)
    rw [address_Decode_L2]
    have e1 : decide (((A.length : Nat) : Int) < (R.1.size : Int)) = true := by simp; omega
    simp only [e1, if_true, bs_get hB hC, Option.bind_some, strings_IndexByte, internal_stringslite_IndexByte, bytealg_IndexByteString, ixb_eq x hx, digs]
    cases hd : dI x with
    | none => simp [dV]
    | some i =>
      have hi := dI_lt hd
      have e2 : decide (dV (some i) < 0) = false := decide_eq_false (by simp only [dV]; omega)
      have e3 : IntKind.u8.wrap (dV (some i)) = (i : Int) := wu8 (by simp only [dV]; omega) (by simp only [dV]; omega)
      have ih := Decode_L2_eq N p R hR B (C ++ [x]) (A ++ [i]) m (by rw [hB]; simp) (by simp [hC]) (by omega)
      simp only [List.length_append, List.length_cons, List.length_nil, Nat.zero_add, List.append_assoc, List.cons_append, List.nil_append] at ih
      simp only [e2, Bool.false_eq_true, if_false, List.length_cons, List.replicate_succ, idx_mid A (List.replicate B.length 0) 0 rfl, Option.bind_some, e3, Int.toNat_natCast, set_mid A (List.replicate B.length 0) 0 i rfl, i1 (show A.length ≤ 100000 by omega), ih]
      cases digs B <;> simp
theorem rDecode_L5_eq (N : Nat) (hN : 70000 ≤ N) (p : ByteArray) (T : ByteArray × Bool) (hT : T.1.size ≤ 1000) : ∀ (B C A : List Nat) (m : Nat), bs T.1 = C ++ B → A.length ≤ C.length → B.length < m →
    ref27_Decode_L5 N p T m ((C.length : Nat) : Int) (iN A) = some (match digs B with | some ds => .brk (iN (A ++ ds)) | none => .ret ([], 7))
  | [], C, A, m, hB, hC, hm => by
    obtain ⟨m, rfl⟩ : ∃ q, m = q + 1 := ⟨m - 1, by omega⟩
    have hl := congrArg List.length hB
    rw [bs_len] at hl
    simp at hl
    rw [ref27_Decode_L5]
    have e1 : decide (((C.length : Nat) : Int) < (T.1.size : Int)) = false := by simp; omega
    simp only [e1, Bool.false_eq_true, if_false, digs, List.length_nil, List.replicate_zero, List.append_nil]
  | x :: B, C, A, m, hB, hC, hm => by
    obtain ⟨m, rfl⟩ : ∃ q, m = q + 1 := ⟨m - 1, by omega⟩
    have hl := congrArg List.length hB
    rw [bs_len] at hl
    simp only [List.length_append, List.length_cons] at hl hm
    rw [ref27_Decode_L5]
    have e1 : decide (((C.length : Nat) : Int) < (T.1.size : Int)) = true := by simp; omega
    simp only [e1, if_true, bs_get hB rfl, Option.bind_some, digit_eq N hN x, digs]
    cases hd : dI x with
    | none => simp [dV]
    | some i =>
      have hi := dI_lt hd
      have e2 : decide (dV (some i) < 0) = false := decide_eq_false (by simp only [dV]; omega)
      have e3 : IntKind.u8.wrap (dV (some i)) = (i : Int) := wu8 (by simp only [dV]; omega) (by simp only [dV]; omega)
      have ih := rDecode_L5_eq N hN p T hT B (C ++ [x]) (A ++ [i]) m (by rw [hB]; simp) (by simp; omega) (by omega)
      simp only [List.length_append, List.length_cons, List.length_nil, Nat.zero_add, List.append_assoc, List.cons_append, List.nil_append] at ih
      simp only [e2, Bool.false_eq_true, if_false, e3, app1 (l := A) (x := i) (by omega), Option.bind_some, i1 (show C.length ≤ 100000 by omega), ih]
      cases digs B <;> simp
end Go.Proofs.YtidkaiebgjbekaaDoor
