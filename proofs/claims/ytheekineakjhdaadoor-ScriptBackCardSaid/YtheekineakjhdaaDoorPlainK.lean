import Derived.Test.YtheekineakjhdaaDoorPlainA
set_option linter.unusedSimpArgs false
set_option linter.unusedVariables false
namespace Go.Proofs.YtheekineakjhdaaDoor
open Go Go.Vm

/-! ### What an operation without an error is like -/
def rng (m n : Int) : Bool := decide (1 ≤ n) && decide (n ≤ 15) && decide (1 ≤ m) && decide (m ≤ n)
structure Fine (o : S_api_Op) : Prop where
  lo : 1 ≤ o.Code
  hi : o.Code ≤ 17
  data : o.Code = 1 ∨ o.Data = []
  mn : o.Code = 11 ∨ (o.M = 0 ∧ o.N = 0)
  len : o.Data.length ≤ 255
  rg : o.Code = 11 → rng o.M o.N = true
theorem ft_fine {o : S_api_Op} (h : ft o = 0) : Fine o := by
  unfold ft ftB at h
  split at h
  · cases h
  · rename_i h1
    simp only [Bool.not_eq_true, Bool.not_eq_false', Bool.and_eq_true, decide_eq_true_eq] at h1
    split at h
    · cases h
    · rename_i h2
      split at h
      · cases h
      · rename_i h3
        split at h
        · cases h
        · rename_i h4
          split at h
          · cases h
          · rename_i h5
            refine ⟨h1.1, h1.2, ?_, ?_, ?_, ?_⟩
            · by_cases hc : o.Code = 1
              · exact .inl hc
              · refine .inr (List.eq_nil_of_length_eq_zero ?_)
                have e : (o.Code == 1) = false := by simpa using hc
                rw [e] at h2
                simp only [Bool.not_false, Bool.true_and, decide_eq_true_eq] at h2
                omega
            · by_cases hc : o.Code = 11
              · exact .inl hc
              · have e : (o.Code == 11) = false := by simpa using hc
                rw [e] at h3
                simp only [Bool.not_false, Bool.true_and, Bool.or_eq_true, bne_iff_ne, ne_eq, not_or, Classical.not_not] at h3
                exact .inr h3
            · simp only [decide_eq_true_eq] at h4; omega
            · intro hc
              have e : (o.Code == 11) = true := by simpa using hc
              rw [e] at h5
              simp only [Bool.true_and, Bool.not_eq_true', Bool.not_eq_false] at h5
              exact h5
theorem fine_ft {o : S_api_Op} (h : Fine o) : ft o = 0 := by
  unfold ft ftB
  have e1 : decide (1 ≤ o.Code) = true := decide_eq_true h.lo
  have e2 : decide (o.Code ≤ 17) = true := decide_eq_true h.hi
  have e4 : decide (255 < (o.Data.length : Int)) = false := decide_eq_false (by have := h.len; omega)
  have e3 : (!(o.Code == 1) && decide (0 < (o.Data.length : Int))) = false := by
    rcases h.data with hc | hd
    · rw [hc]; rfl
    · rw [hd]; simp
  have e5 : (!(o.Code == 11) && (o.M != 0 || o.N != 0)) = false := by
    rcases h.mn with hc | ⟨hm, hn⟩
    · rw [hc]; rfl
    · rw [hm, hn]; simp
  have e6 : (o.Code == 11 && !(decide (1 ≤ o.N) && decide (o.N ≤ 15) && decide (1 ≤ o.M) && decide (o.M ≤ o.N))) = false := by
    by_cases hc : o.Code = 11
    · have := h.rg hc
      unfold rng at this
      rw [this]; simp
    · have e : (o.Code == 11) = false := by simpa using hc
      rw [e]; rfl
  rw [e1, e2, e4, e3, e5, e6]
  rfl
/-! ### One operation -/
def nx (c : Nat) (r : List Nat) : Except Int (S_api_Op × List Nat) :=
  if ¬ (1 ≤ c ∧ c ≤ 17) then .error 80
  else if c = 1 then (match r with
    | [] => .error 1
    | k :: r' => if r'.length < k then .error 1 else .ok (⟨1, iN (r'.take k), 0, 0⟩, r'.drop k))
  else if c = 11 then (match r with
    | m :: n :: r' => if rng (m : Int) (n : Int) = true then .ok (⟨11, [], (m : Int), (n : Int)⟩, r') else .error 5
    | _ => .error 1)
  else .ok (⟨(c : Int), [], 0, 0⟩, r)
def nxV (e : Except Int (S_api_Op × List Nat)) : Int × (List Int) × Int × Int × (List Int) × Int := match e with
  | .ok (o, q) => (o.Code, o.Data, o.M, o.N, iN q, 0)
  | .error e => (0, [], 0, 0, [], e)
theorem wN {c : Nat} (h : c ≤ 100000) : IntKind.i64.wrap (c : Int) = (c : Int) := w64 (by omega) (by omega)
theorem sub_iN (l : List Nat) (a : Nat) (h : a ≤ l.length) : sub (iN l) (a : Int) ((iN l).length : Int) = some (iN (l.drop a)) := by
  unfold sub
  rw [if_pos ⟨by omega, by rw [iN_len]; omega, Int.le_refl _⟩, Int.toNat_natCast, Int.toNat_natCast, List.take_of_length_le (Nat.le_refl _), iN_drop]
theorem sub_iN2 (l : List Nat) (a b : Nat) (h : a ≤ b) (h2 : b ≤ l.length) : sub (iN l) (a : Int) (b : Int) = some (iN ((l.take b).drop a)) := by
  unfold sub
  rw [if_pos ⟨by omega, by omega, by rw [iN_len]; omega⟩, Int.toNat_natCast, Int.toNat_natCast, iN_take, iN_drop]
theorem next_eq (N : Nat) (hN : 70000 ≤ N) (c : Nat) (r : List Nat) (hc : c < 256) (hr : ∀ x ∈ r, x < 256) (hl : r.length ≤ 1000) : script_next N (iN (c :: r)) = some (nxV (nx c r)) := by
  unfold script_next nx
  have i0 : idx (iN (c :: r)) 0 = some (c : Int) := rfl
  have s1 : sub (iN (c :: r)) 1 ((iN (c :: r)).length : Int) = some (iN r) := sub_iN (c :: r) 1 (by simp)
  simp only [i0, Option.bind_some, wN (c := c) (by omega), known_eq, s1]
  by_cases h1 : 1 ≤ c ∧ c ≤ 17
  · have e1 : (decide (1 ≤ (c : Int)) && decide ((c : Int) ≤ 17)) = true := by
      rw [Bool.and_eq_true]; exact ⟨decide_eq_true (by omega), decide_eq_true (by omega)⟩
    rw [e1]
    simp only [Bool.not_true, Bool.false_eq_true, if_false, h1, not_true, and_self]
    by_cases h2 : c = 1
    · subst h2
      have e2 : (((1 : Nat) : Int) == 1) = true := rfl
      simp only [e2, if_true]
      cases r with
      | nil => rfl
      | cons k r' =>
        have hk := hr k (by simp)
        have e3 : (((iN (k :: r')).length : Int) == 0) = false := by rw [iN_len]; simp; omega
        have i1' : idx (iN (k :: r')) 0 = some (k : Int) := rfl
        have e4 : IntKind.i64.wrap (((iN (k :: r')).length : Int) - 1) = (r'.length : Int) := by
          simp only [iN_len, List.length_cons] at hl ⊢
          rw [w64 (by omega) (by omega)]; omega
        simp only [e3, Bool.false_eq_true, if_false, i1', Option.bind_some, e4, wN (c := k) (by omega), script_next_J2]
        by_cases h3 : r'.length < k
        · rw [dT h3]
          simp only [h3, if_true, nxV]
        · rw [dF h3]
          simp only [List.length_cons] at hl
          have e5 : IntKind.i64.wrap (1 + (k : Int)) = ((k + 1 : Nat) : Int) := by rw [w64 (by omega) (by omega)]; omega
          have s2 : sub (iN (k :: r')) 1 ((k + 1 : Nat) : Int) = some (iN (((k :: r').take (k + 1)).drop 1)) := sub_iN2 (k :: r') 1 (k + 1) (by omega) (by simp; omega)
          have s3 : sub (iN (k :: r')) ((k + 1 : Nat) : Int) ((iN (k :: r')).length : Int) = some (iN ((k :: r').drop (k + 1))) := sub_iN (k :: r') (k + 1) (by simp; omega)
          have hrow : script_row N [iN (r'.take k)] = some (iN (r'.take k)) := by
            rw [row_eq N hN [iN (r'.take k)] (by simp) (by simp [iN_len]; omega)]; simp
          rw [List.take_succ_cons, List.drop_succ_cons, List.drop_zero] at s2
          rw [List.drop_succ_cons] at s3
          simp only [Bool.false_eq_true, if_false, i1', Option.bind_some, wN (c := k) (by omega), e5, s2, s3, hrow, script_next_J1, h3, nxV, wN (c := 1) (by omega)]
          rfl
    · have e2 : ((c : Int) == 1) = false := by simp; omega
      simp only [e2, h2, Bool.false_eq_true, if_false]
      by_cases h3 : c = 11
      · subst h3
        have e3 : (((11 : Nat) : Int) == 11) = true := rfl
        simp only [e3, if_true]
        match r, hr, hl with
        | [], _, _ => rfl
        | [_], _, _ => rfl
        | m :: n :: r', hr, hl =>
          have hm := hr m (by simp)
          have hn := hr n (by simp)
          have e4 : decide (((iN (m :: n :: r')).length : Int) < 2) = false := decide_eq_false (by rw [iN_len]; simp; omega)
          have j0 : idx (iN (m :: n :: r')) 0 = some (m : Int) := rfl
          have j1 : idx (iN (m :: n :: r')) 1 = some (n : Int) := rfl
          have s2 : sub (iN (m :: n :: r')) 2 ((iN (m :: n :: r')).length : Int) = some (iN r') := sub_iN (m :: n :: r') 2 (by simp)
          simp only [e4, Bool.false_eq_true, if_false, j0, j1, s2, Option.bind_some, wN (c := m) (by omega), wN (c := n) (by omega), script_next_J3, inRange_eq]
          have er : (decide (1 ≤ (n : Int)) && decide ((n : Int) ≤ 15) && decide (1 ≤ (m : Int)) && decide ((m : Int) ≤ (n : Int))) = rng (m : Int) (n : Int) := rfl
          rw [er]
          cases rng (m : Int) (n : Int) with
          | true => simp only [Bool.not_true, Bool.false_eq_true, if_false, if_true, script_next_J1, nxV, wN (c := 11) (by omega)]; rfl
          | false => simp only [Bool.not_false, if_true, Bool.false_eq_true, if_false, nxV]
      · have e3 : ((c : Int) == 11) = false := by simp; omega
        simp only [e3, h3, Bool.false_eq_true, if_false, script_next_J1, nxV, wN (c := c) (by omega)]
  · have e1 : (decide (1 ≤ (c : Int)) && decide ((c : Int) ≤ 17)) = false := by
      rw [Bool.and_eq_false_iff]
      by_cases h : 1 ≤ c
      · exact .inr (decide_eq_false (by omega))
      · exact .inl (decide_eq_false (by omega))
    rw [e1]
    simp only [Bool.not_false, if_true, h1, not_false_eq_true, nxV]
theorem nx_err {c : Nat} {r : List Nat} {e : Int} (h : nx c r = .error e) : e ≠ 0 := by
  unfold nx at h
  split at h
  · injection h with h; omega
  · split at h
    · split at h
      · injection h with h; omega
      · split at h
        · injection h with h; omega
        · cases h
    · split at h
      · split at h
        · split at h
          · cases h
          · injection h with h; omega
        · injection h with h; omega
      · cases h
/-- What is read is what was written. -/
theorem nx_ok {c : Nat} {r q : List Nat} {o : S_api_Op} (hc : c < 256) (hr : ∀ x ∈ r, x < 256) (h : nx c r = .ok (o, q)) : en o ++ iN q = iN (c :: r) ∧ Fine o ∧ q.length ≤ r.length ∧ ∀ x ∈ q, x < 256 := by
  unfold nx at h
  split at h
  · cases h
  · rename_i h1
    have h1 : 1 ≤ c ∧ c ≤ 17 := Classical.byContradiction h1
    split at h
    · rename_i h2
      subst h2
      split at h
      · cases h
      · rename_i k r'
        split at h
        · cases h
        · rename_i h3
          have hk := hr k (by simp)
          injection h with h
          injection h with e1 e2
          subst e1 e2
          have hlen : (iN (r'.take k)).length = k := by rw [iN_len, List.length_take]; omega
          refine ⟨?_, ⟨by show (1 : Int) ≤ 1; omega, by show (1 : Int) ≤ 17; omega, .inl rfl, .inr ⟨rfl, rfl⟩, by simp only [hlen]; omega, by intro h; cases h⟩, by simp; omega, fun x hx => hr x (by simp [List.mem_of_mem_drop hx])⟩
          unfold en
          simp only [hlen, beq_self_eq_true, if_true]
          rw [show IntKind.u8.wrap (k : Int) = (k : Int) from wu8 (by omega) (by omega), List.append_assoc, iN_app, List.take_append_drop]
          rfl
    · rename_i h2
      split at h
      · rename_i h3
        subst h3
        split at h
        · rename_i m n r'
          split at h
          · rename_i h4
            injection h with h
            injection h with e1 e2
            subst e1 e2
            have h4' := h4
            simp only [rng, Bool.and_eq_true, decide_eq_true_eq] at h4'
            refine ⟨?_, ⟨by show (1 : Int) ≤ 11; omega, by show (11 : Int) ≤ 17; omega, .inr rfl, .inl rfl, by simp, fun _ => h4⟩, by simp; omega, fun x hx => hr x (by simp [hx])⟩
            unfold en
            simp only [show ((11 : Int) == 1) = false from rfl, Bool.false_eq_true, if_false, beq_self_eq_true, if_true]
            rw [show IntKind.u8.wrap (m : Int) = (m : Int) from wu8 (by omega) (by omega), show IntKind.u8.wrap (n : Int) = (n : Int) from wu8 (by omega) (by omega)]
            rfl
          · cases h
        · cases h
      · rename_i h3
        injection h with h
        injection h with e1 e2
        subst e1 e2
        refine ⟨?_, ⟨by simp only; omega, by simp only; omega, .inr rfl, .inr ⟨rfl, rfl⟩, by simp, fun h => absurd h (by simp only; omega)⟩, Nat.le_refl _, hr⟩
        unfold en
        simp only [show ((c : Int) == 1) = false by simp; omega, show ((c : Int) == 11) = false by simp; omega, Bool.false_eq_true, if_false]
        rw [show IntKind.u8.wrap (c : Int) = (c : Int) from wu8 (by omega) (by omega)]
        rfl
/-- What is written is read. -/
theorem nx_en {o : S_api_Op} (hf : Fine o) (hb : Byt o.Data) : ∃ (c : Nat) (r : List Nat), c < 256 ∧ (∀ x ∈ r, x < 256) ∧ en o = iN (c :: r) ∧ ∀ q : List Nat, nx c (r ++ q) = .ok (o, q) := by
  obtain ⟨code, data, m, n⟩ := o
  obtain ⟨h1, h2, h3, h4, h5, h6⟩ := hf
  simp only at h1 h2 h3 h4 h5 h6 hb
  by_cases hc1 : code = 1
  · subst hc1
    obtain ⟨rfl, rfl⟩ := h4.resolve_left (by omega)
    obtain ⟨d, rfl, hd⟩ := byt_nat hb
    rw [iN_len] at h5
    refine ⟨1, d.length :: d, by omega, ?_, ?_, fun q => ?_⟩
    · intro x hx
      rcases List.mem_cons.1 hx with rfl | hx
      · omega
      · exact hd x hx
    · unfold en
      simp only [beq_self_eq_true, if_true, iN_len]
      rw [show IntKind.u8.wrap (d.length : Int) = (d.length : Int) from wu8 (by omega) (by omega)]
      rfl
    · unfold nx
      rw [if_neg (by omega), if_pos rfl]
      simp only [List.cons_append]
      rw [if_neg (by simp), List.take_left, List.drop_left]
  · have hdn : data = [] := h3.resolve_left hc1
    subst hdn
    by_cases hc2 : code = 11
    · subst hc2
      have hr := h6 rfl
      have hr' := hr
      simp only [rng, Bool.and_eq_true, decide_eq_true_eq] at hr'
      obtain ⟨m, rfl⟩ : ∃ k : Nat, m = (k : Int) := ⟨m.toNat, by omega⟩
      obtain ⟨n, rfl⟩ : ∃ k : Nat, n = (k : Int) := ⟨n.toNat, by omega⟩
      refine ⟨11, [m, n], by omega, ?_, ?_, fun q => ?_⟩
      · intro x hx
        simp only [List.mem_cons, List.not_mem_nil, or_false] at hx
        omega
      · unfold en
        simp only [show ((11 : Int) == 1) = false from rfl, Bool.false_eq_true, if_false, beq_self_eq_true, if_true]
        rw [show IntKind.u8.wrap (m : Int) = (m : Int) from wu8 (by omega) (by omega), show IntKind.u8.wrap (n : Int) = (n : Int) from wu8 (by omega) (by omega)]
        rfl
      · unfold nx
        rw [if_neg (by omega), if_neg (by omega), if_pos rfl]
        simp only [List.cons_append, List.nil_append]
        rw [if_pos hr]
    · obtain ⟨rfl, rfl⟩ := h4.resolve_left hc2
      obtain ⟨c, rfl⟩ : ∃ k : Nat, code = (k : Int) := ⟨code.toNat, by omega⟩
      refine ⟨c, [], by omega, by simp, ?_, fun q => ?_⟩
      · unfold en
        simp only [show ((c : Int) == 1) = false by simp; omega, show ((c : Int) == 11) = false by simp; omega, Bool.false_eq_true, if_false]
        rw [show IntKind.u8.wrap (c : Int) = (c : Int) from wu8 (by omega) (by omega)]
        rfl
      · unfold nx
        rw [if_neg (by omega), if_neg (by omega), if_neg (by omega)]
        rfl
/-! ### Parse -/
def ps : Nat → List Nat → Except Int (List S_api_Op)
  | 0, _ => .ok []
  | _ + 1, [] => .ok []
  | f + 1, c :: r => match nx c r with
    | .error e => .error e
    | .ok (o, q) => match ps f q with
      | .ok l => .ok (o :: l)
      | .error e => .error e
theorem ps_err : ∀ {f : Nat} {b : List Nat} {e : Int}, ps f b = .error e → e ≠ 0
  | 0, b, e, h => by cases h
  | f + 1, [], e, h => by cases h
  | f + 1, c :: r, e, h => by
    simp only [ps] at h
    split at h
    · rename_i e' h1; injection h with h; subst h; exact nx_err h1
    · split at h
      · cases h
      · rename_i e' h1; injection h with h; subst h; exact ps_err h1
theorem ps_ok : ∀ {f : Nat} {b : List Nat} {l : List S_api_Op}, b.length < f → (∀ x ∈ b, x < 256) → ps f b = .ok l → fl l = iN b ∧ (∀ o ∈ l, Fine o) ∧ l.length ≤ b.length
  | 0, b, l, hf, _, _ => by omega
  | f + 1, [], l, hf, _, h => by simp only [ps] at h; injection h with h; subst h; exact ⟨rfl, by simp, by simp⟩
  | f + 1, c :: r, l, hf, hb, h => by
    simp only [List.length_cons] at hf
    simp only [ps] at h
    split at h
    · cases h
    · rename_i o q h1
      split at h
      · rename_i l' h2
        injection h with h
        subst h
        obtain ⟨k1, k2, k3, k4⟩ := nx_ok (hb c (by simp)) (fun x hx => hb x (by simp [hx])) h1
        obtain ⟨j1, j2, j3⟩ := ps_ok (by omega) k4 h2
        refine ⟨by rw [fl_cons, j1, k1], ?_, by simp; omega⟩
        intro x hx
        rcases List.mem_cons.1 hx with rfl | hx
        · exact k2
        · exact j2 x hx
      · cases h
theorem ps_fl : ∀ {l : List S_api_Op}, (∀ o ∈ l, Fine o ∧ Byt o.Data) → ∃ b : List Nat, fl l = iN b ∧ (∀ x ∈ b, x < 256) ∧ ∀ f, b.length < f → ps f b = .ok l
  | [], _ => ⟨[], rfl, by simp, fun f hf => by cases f with
    | zero => omega
    | succ f => rfl⟩
  | o :: l, h => by
    obtain ⟨b, h1, h2, h3⟩ := ps_fl (l := l) (fun x hx => h x (by simp [hx]))
    obtain ⟨hf, hd⟩ := h o (by simp)
    obtain ⟨c, r, k1, k2, k3, k4⟩ := nx_en hf hd
    refine ⟨c :: (r ++ b), by rw [fl_cons, k3, h1, iN_app]; rfl, ?_, fun f hf => ?_⟩
    · intro x hx
      simp only [List.mem_cons, List.mem_append] at hx
      rcases hx with rfl | hx | hx
      · exact k1
      · exact k2 x hx
      · exact h2 x hx
    · cases f with
      | zero => omega
      | succ f =>
        simp only [List.length_cons, List.length_append] at hf
        simp only [ps, k4 b, h3 f (by omega)]
theorem Parse_L2_eq (N : Nat) (hN : 70000 ≤ N) : ∀ (f : Nat) (b : List Nat) (m : Nat) (a : List S_api_Op), b.length < f → f ≤ m → (∀ x ∈ b, x < 256) → a.length + b.length ≤ 1000 → script_Parse_L2 N m (iN b) a = some (match ps f b with | .ok l => .brk (a ++ l) | .error e => .ret ([], e))
  | 0, b, m, a, hf, _, _, _ => by omega
  | f + 1, b, m, a, hf, hm, hb, hl => by
    obtain ⟨m, rfl⟩ : ∃ q, m = q + 1 := ⟨m - 1, by omega⟩
    rw [script_Parse_L2, iN_len]
    cases b with
    | nil => simp [ps]
    | cons c r =>
      simp only [List.length_cons] at hf hl
      have e1 : decide (0 < ((c :: r).length : Int)) = true := decide_eq_true (by rw [List.length_cons]; omega)
      have hc := hb c (by simp)
      have hr : ∀ x ∈ r, x < 256 := fun x hx => hb x (by simp [hx])
      simp only [e1, if_true, next_eq N hN c r hc hr (by omega), Option.bind_some, ps]
      cases hn : nx c r with
      | error e =>
        have he := nx_err hn
        have : (e != 0) = true := by simpa using he
        simp only [nxV, this, if_true]
      | ok p =>
        obtain ⟨o, q⟩ := p
        obtain ⟨_, _, k3, k4⟩ := nx_ok hc hr hn
        have hap : app 48 a [S_api_Op.mk o.Code o.Data o.M o.N] = some (a ++ [o]) := app_ok (by have := lim_big'; simp; omega)
        simp only [nxV, show ((0 : Int) != 0) = false from rfl, Bool.false_eq_true, if_false, hap, Option.bind_some]
        rw [Parse_L2_eq N hN f q m (a ++ [o]) (by omega) (by omega) k4 (by simp; omega)]
        cases ps f q <;> simp
def prs (b : List Nat) : List S_api_Op × Int := if 520 < b.length then ([], 4) else match ps 600 b with
  | .ok l => (l, 0)
  | .error e => ([], e)
theorem Parse_eq (N : Nat) (hN : 70000 ≤ N) (b : List Nat) (hb : ∀ x ∈ b, x < 256) : script_Parse N (iN b) = some (prs b) := by
  unfold script_Parse prs
  rw [iN_len]
  by_cases h : 520 < b.length
  · have e1 : decide (520 < (b.length : Int)) = true := decide_eq_true (by omega)
    simp only [e1, h, if_true]
  · have e1 : decide (520 < (b.length : Int)) = false := decide_eq_false (by omega)
    simp only [e1, h, Bool.false_eq_true, if_false, Parse_L2_eq N hN 600 b N [] (by omega) (by omega) hb (by simp; omega), Option.bind_some]
    cases ps 600 b <;> simp [script_Parse_J1]
/-! ### The law -/
theorem SameOps_L2 (N : Nat) (l : List S_api_Op) (hl : l.length ≤ 1000) : ∀ (m j : Nat), l.length - j < m → j ≤ l.length → ref08_SameOps_L2 N l l m (j : Int) = some (.brk ())
  | 0, j, hm, _ => by omega
  | m + 1, j, hm, hj => by
    rw [ref08_SameOps_L2]
    by_cases hjl : j < l.length
    · simp only [dT hjl, if_true, idx_lt l hjl, Option.bind_some, bne_self_eq_false, Bool.false_eq_true, if_false, Same_self, ref08_SameOps_J3, Bool.not_true, i1 (show j ≤ 100000 by omega)]
      exact SameOps_L2 N l hl m (j + 1) (by omega) (by omega)
    · simp only [dF hjl, Bool.false_eq_true, if_false]
theorem SameOps_self (N : Nat) (hN : 70000 ≤ N) (l : List S_api_Op) (hl : l.length ≤ 1000) : ref08_SameOps N l l = some true := by
  have h := SameOps_L2 N l hl N 0 (by omega) (by omega)
  rw [show ((0 : Nat) : Int) = 0 from rfl] at h
  simp only [ref08_SameOps, bne_self_eq_false, Bool.false_eq_true, if_false, h, Option.bind_some, ref08_SameOps_J1]
theorem ff_none : ∀ {l : List S_api_Op}, ff l = none → ∀ o ∈ l, Fine o
  | [], _, o, ho => by cases ho
  | x :: l, h, o, ho => by
    simp only [ff] at h
    split at h
    · cases h
    · rename_i hx
      have h0 : ft x = 0 := by simpa using hx
      rcases List.mem_cons.1 ho with rfl | ho
      · exact ft_fine h0
      · exact ff_none h o ho
theorem ff_fine : ∀ {l : List S_api_Op}, (∀ o ∈ l, Fine o) → ff l = none
  | [], _ => rfl
  | x :: l, h => by
    simp only [ff, fine_ft (h x (by simp)), bne_self_eq_false, Bool.false_eq_true, if_false]
    exact ff_fine fun o ho => h o (by simp [ho])
theorem ff_some : ∀ {l : List S_api_Op} {e : Int}, ff l = some e → e ≠ 0
  | [], e, h => by cases h
  | x :: l, e, h => by
    simp only [ff] at h
    split at h
    · rename_i hx; injection h with h; subst h; simpa using hx
    · exact ff_some h
theorem Back_J2 (N : Nat) (hN : 70000 ≤ N) (b : List Nat) (hb : ∀ x ∈ b, x < 256) : law08_ScriptBack_J2 N (iN b) = some true := by
  unfold law08_ScriptBack_J2
  rw [Parse_eq N hN b hb]
  simp only [Option.bind_some]
  unfold prs
  by_cases h : 520 < b.length
  · simp only [h, if_true]; rfl
  · simp only [h, if_false]
    cases hp : ps 600 b with
    | error e =>
      have he := ps_err hp
      have : (e != 0) = true := by simpa using he
      simp only [this, if_true]; rfl
    | ok l =>
      obtain ⟨k1, k2, k3⟩ := ps_ok (by omega) hb hp
      have hs : short l := ⟨by omega, fun o ho => by have := (k2 o ho).len; omega⟩
      have ha : asm l = (iN b, 0) := by
        unfold asm
        rw [ff_fine k2, k1]
        simp only [iN_len, h, if_false]
      simp only [show ((0 : Int) != 0) = false from rfl, Bool.false_eq_true, if_false, Assemble_eq N hN l hs, ha, Option.bind_some, beq_self_eq_true, if_true, Same_self, law08_ScriptBack_J3]
theorem ScriptBack_true (l : List S_api_Op) (b : List Int) (hl : ∀ x ∈ l, Byt x.Data) (hb : Byt b) : law08_ScriptBack NN l b = some true := by
  obtain ⟨b, rfl, hb'⟩ := byt_nat hb
  have j2 := Back_J2 NN (Nat.le_refl _) b hb'
  unfold law08_ScriptBack
  simp only [law08_sane, Option.bind_some, Bool.not_true, Bool.false_eq_true, if_false, keep_eq NN (Nat.le_refl _) l]
  by_cases h1 : l.length ≤ 40
  · cases h2 : kb l with
    | false => simp [law08_ScriptBack_J1]
    | true =>
      have hs := short_of h1 h2
      simp only [h1, decide_true, Bool.and_self, Bool.not_true, Bool.false_eq_true, if_false]
      cases decide (700 < ((iN b).length : Int)) with
      | true => simp [law08_ScriptBack_J1]
      | false =>
        simp only [law08_ScriptBack_J1, Bool.false_eq_true, if_false, Assemble_eq NN (Nat.le_refl _) l hs, Option.bind_some, j2]
        cases hf : ff l with
        | some e =>
          have he := ff_some hf
          have : (e == 0) = false := by simpa using he
          simp only [asm, hf, this, Bool.false_eq_true, if_false]
        | none =>
          by_cases h5 : 520 < (fl l).length
          · simp only [asm, hf, h5, if_true]; rfl
          · have hfine := ff_none hf
            obtain ⟨c, k1, k2, k3⟩ := ps_fl (l := l) (fun o ho => ⟨hfine o ho, hl o ho⟩)
            have hcl : c.length = (fl l).length := by rw [k1, iN_len]
            have hpr : prs c = (l, 0) := by
              unfold prs
              rw [if_neg (by omega), k3 600 (by omega)]
            have ha : asm l = (iN c, 0) := by
              unfold asm
              rw [hf]
              simp only
              rw [if_neg h5, k1]
            simp only [ha, beq_self_eq_true, if_true, Parse_eq NN (Nat.le_refl _) c k2, hpr, Option.bind_some, show ((0 : Int) != 0) = false from rfl, Bool.false_eq_true, SameOps_self NN (Nat.le_refl _) l (by omega), law08_ScriptBack_J4, Bool.not_true, if_false, j2]
  · simp [h1, law08_ScriptBack_J1]
end Go.Proofs.YtheekineakjhdaaDoor
