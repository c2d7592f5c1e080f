import Derived.Test.YtheekineakjhdaaDoorPlainA
set_option linter.unusedSimpArgs false
set_option linter.unusedVariables false
namespace Go.Proofs.YtheekineakjhdaaDoor
open Go Go.Vm

/-! ### Bytes of wide numbers -/
theorem aixN {n : Nat} {l : List Int} (h : l.length = n) {i : Nat} (hi : i < n) : aix n l (i : Int) = some (l[i]'(by omega)) := by
  unfold aix
  rw [if_pos (by omega), idx_lt l (by omega)]
theorem shr_some (k : IntKind) (a : Int) (s : Nat) : ∃ y, shr k a (s : Int) = some y := by
  unfold shr
  rw [if_neg (by omega)]
  exact ⟨_, rfl⟩
theorem Bytes_L2 (N : Nat) (w : List Int) (hw : w.length = 4) : ∀ (m j : Nat) (l : List Int), l.length = 32 → 32 - j < m → j ≤ 32 → ∃ r, wide_Bytes_L2 N w m (j : Int) l = some r ∧ ref02_Bytes_L2 N w m (j : Int) l = some r ∧ r.length = 32
  | 0, j, l, _, hm, _ => by omega
  | m + 1, j, l, hl, hm, hj => by
    rw [wide_Bytes_L2, ref02_Bytes_L2]
    by_cases h : j < 32
    · have e1 : decide ((j : Int) < 32) = true := decide_eq_true (by omega)
      have a1 : IntKind.i64.wrap (3 - IntKind.i64.wrap (Int.tdiv (j : Int) 8)) = ((3 - j / 8 : Nat) : Int) := by
        rw [show Int.tdiv (j : Int) 8 = ((j / 8 : Nat) : Int) from tdiv_nat j 8, w64 (a := ((j / 8 : Nat) : Int)) (by omega) (by omega), w64 (by omega) (by omega)]; omega
      have a2 : IntKind.i64.wrap (Int.tdiv (IntKind.i64.wrap (31 - (j : Int))) 8) = ((3 - j / 8 : Nat) : Int) := by
        rw [w64 (a := 31 - (j : Int)) (by omega) (by omega), show (31 - (j : Int)) = ((31 - j : Nat) : Int) by omega, show Int.tdiv ((31 - j : Nat) : Int) 8 = (((31 - j) / 8 : Nat) : Int) from tdiv_nat (31 - j) 8, w64 (by omega) (by omega)]; omega
      have b1 : IntKind.i64.wrap (56 - IntKind.i64.wrap (Int.tmod (j : Int) 8 * 8)) = ((56 - 8 * (j % 8) : Nat) : Int) := by
        rw [show Int.tmod (j : Int) 8 = ((j % 8 : Nat) : Int) from tmod_nat j 8, w64 (a := ((j % 8 : Nat) : Int) * 8) (by omega) (by omega), w64 (by omega) (by omega)]; omega
      have b2 : IntKind.i64.wrap (8 * Int.tmod (IntKind.i64.wrap (31 - (j : Int))) 8) = ((56 - 8 * (j % 8) : Nat) : Int) := by
        rw [w64 (a := 31 - (j : Int)) (by omega) (by omega), show (31 - (j : Int)) = ((31 - j : Nat) : Int) by omega, show Int.tmod ((31 - j : Nat) : Int) 8 = (((31 - j) % 8 : Nat) : Int) from tmod_nat (31 - j) 8, w64 (by omega) (by omega)]; omega
      obtain ⟨y, hy⟩ := shr_some .u64 (w[3 - j / 8]'(by omega)) (56 - 8 * (j % 8))
      obtain ⟨r, r1, r2, r3⟩ := Bytes_L2 N w hw m (j + 1) (l.set j (IntKind.u8.wrap y)) (by rw [List.length_set]; exact hl) (by omega) (by omega)
      simp only [e1, if_true, a1, a2, b1, b2, aixN hw (show 3 - j / 8 < 4 by omega), Option.bind_some, hy, aixN hl h, i1 (show j ≤ 100000 by omega), Int.toNat_natCast, r1, r2]
      exact ⟨r, rfl, rfl, r3⟩
    · have e1 : decide ((j : Int) < 32) = false := decide_eq_false (by omega)
      simp only [e1, Bool.false_eq_true, if_false]
      exact ⟨l, rfl, rfl, hl⟩
def B (N : Nat) (k : List Int) : List Int := (wide_Bytes N k).getD []
theorem arrN {n : Nat} {l : List Int} (h : l.length = n) : arr n l = some l := by unfold arr; rw [if_pos h]
theorem Bytes_both (N : Nat) (hN : 70000 ≤ N) (w : List Int) (hw : w.length = 4) : wide_Bytes N w = some (B N w) ∧ ref02_Bytes N w = some (B N w) ∧ (B N w).length = 32 := by
  obtain ⟨r, h1, h2, h3⟩ := Bytes_L2 N w hw N 0 (List.replicate 32 0) rfl (by omega) (by omega)
  rw [show ((0 : Nat) : Int) = 0 from rfl] at h1 h2
  have k1 : wide_Bytes N w = some r := by simp only [wide_Bytes, h1, Option.bind_some, wide_Bytes_J1, arrN h3]
  have k2 : ref02_Bytes N w = some r := by simp only [ref02_Bytes, h2, Option.bind_some, ref02_Bytes_J1, arrN h3]
  have e : B N w = r := by unfold B; rw [k1]; rfl
  rw [e]
  exact ⟨k1, k2, h3⟩
theorem key_eq (N : Nat) (hN : 70000 ≤ N) (w : List Int) (hw : w.length = 4) : ref08_key N w = some (B N w) := by
  obtain ⟨_, h2, h3⟩ := Bytes_both N hN w hw
  simp only [ref08_key, arrN hw, Option.bind_some, h2, arrN h3]
/-! ### The scripts -/
def pu (d : List Int) : List Int := [1, IntKind.u8.wrap (d.length : Int)] ++ d
theorem push_both (N : Nat) (hN : 70000 ≤ N) (d : List Int) (h : d.length ≤ 300) : script_push N d = some (pu d) ∧ ref08_push N d = some (pu d) := by
  have hp : ([[1, IntKind.u8.wrap (d.length : Int)], d] : List (List Int)).length ≤ 100 := by simp
  have ht : ([[1, IntKind.u8.wrap (d.length : Int)], d] : List (List Int)).flatten.length ≤ 10000 := by simp; omega
  have e : ((1 : Int) == 1) = true := rfl
  simp only [script_push, ref08_push, ref08_encode, e, if_true, row_eq N hN _ hp ht, Join_eq N hN _ hp ht, Option.bind_some]
  simp [pu]
theorem pu_len (d : List Int) : (pu d).length = d.length + 2 := by simp [pu]
theorem parts (N : Nat) (hN : 70000 ≤ N) (ps : List (List Int)) (hp : ps.length ≤ 100) (ht : ps.flatten.length ≤ 10000) : ∃ r, script_row N ps = some r ∧ ref01_Join N ps = some r := ⟨_, row_eq N hN ps hp ht, Join_eq N hN ps hp ht⟩
theorem Single_both (N : Nat) (hN : 70000 ≤ N) (w : List Int) (hw : w.length = 4) : ∃ r, script_Single N w = some r ∧ ref08_Single N w = some r := by
  obtain ⟨b1, _, b3⟩ := Bytes_both N hN w hw
  obtain ⟨p1, p2⟩ := push_both N hN (B N w) (by omega)
  obtain ⟨r, r1, r2⟩ := parts N hN [pu (B N w), [10]] (by simp) (by simp [pu_len, b3])
  refine ⟨r, ?_, ?_⟩
  · simp only [script_Single, arrN hw, arrN b3, b1, p1, r1, Option.bind_some]
  · simp only [ref08_Single, arrN hw, key_eq N hN w hw, p2, r2, Option.bind_some]
theorem After_both (N : Nat) (hN : 70000 ≤ N) (v : Nat) (hv : v < 2 ^ 32) (a : List Int) (ha : a.length ≤ 600) : (∃ r, script_After N (v : Int) a = some r ∧ ref08_After N (v : Int) a = some r) ∧ ∃ r, script_Older N (v : Int) a = some r ∧ ref08_Older N (v : Int) a = some r := by
  obtain ⟨k1, k2⟩ := Item_both N hN v hv
  have hil := item8_len 4 v
  obtain ⟨p1, p2⟩ := push_both N hN (iN (item8 4 v)) (by rw [iN_len]; omega)
  have hpl := pu_len (iN (item8 4 v))
  rw [iN_len] at hpl
  obtain ⟨r, r1, r2⟩ := parts N hN [pu (iN (item8 4 v)), [12, 3], a] (by simp) (by simp [hpl]; omega)
  obtain ⟨q, q1, q2⟩ := parts N hN [pu (iN (item8 4 v)), [13, 3], a] (by simp) (by simp [hpl]; omega)
  refine ⟨⟨r, ?_, ?_⟩, q, ?_, ?_⟩
  · simp only [script_After, k1, p1, r1, Option.bind_some]
  · simp only [ref08_After, k2, p2, r2, Option.bind_some]
  · simp only [script_Older, k1, p1, q1, Option.bind_some]
  · simp only [ref08_Older, k2, p2, q2, Option.bind_some]
theorem Hashed_both (N : Nat) (hN : 70000 ≤ N) (h a : List Int) (hh : h.length = 32) (ha : a.length ≤ 600) : ∃ r, script_Hashed N h a = some r ∧ ref08_Hashed N h a = some r := by
  obtain ⟨p1, p2⟩ := push_both N hN h (by omega)
  obtain ⟨r, r1, r2⟩ := parts N hN [[8], pu h, [5, 7], a] (by simp) (by simp [pu_len, hh]; omega)
  exact ⟨r, by simp only [script_Hashed, arrN hh, p1, r1, Option.bind_some], by simp only [ref08_Hashed, arrN hh, p2, r2, Option.bind_some]⟩
theorem Either_both (N : Nat) (hN : 70000 ≤ N) (a b : List Int) (ha : a.length ≤ 600) (hb : b.length ≤ 600) : ∃ r, script_Either N a b = some r ∧ ref08_Either N a b = some r := by
  obtain ⟨r, r1, r2⟩ := parts N hN [[14], a, [15], b, [16]] (by simp) (by simp; omega)
  exact ⟨r, by simp only [script_Either, r1, Option.bind_some], by simp only [ref08_Either, r2, Option.bind_some]⟩
def kop (N : Nat) (k : List Int) : S_api_Op := ⟨1, B N k, 0, 0⟩
theorem Multi_L2 (N : Nat) (hN : 70000 ≤ N) (vm : Int) (ks : List (List Int)) (hk : ∀ k ∈ ks, k.length = 4) (hl : ks.length ≤ 18) : ∀ (m j : Nat) (a : List S_api_Op), a.length ≤ j → ks.length - j < m → j ≤ ks.length → script_Multi_L2 N vm ks m (j : Int) a = some (a ++ (ks.drop j).map (kop N)) ∧ ref08_Multi_L2 N vm ks m (j : Int) a = some (a ++ (ks.drop j).map (kop N))
  | 0, j, a, _, hm, _ => by omega
  | m + 1, j, a, ha, hm, hj => by
    rw [script_Multi_L2, ref08_Multi_L2]
    by_cases hjl : j < ks.length
    · have h4 := hk _ (List.getElem_mem hjl)
      obtain ⟨b1, _, b3⟩ := Bytes_both N hN ks[j] h4
      have hap : app 48 a [S_api_Op.mk 1 (B N ks[j]) 0 0] = some (a ++ [kop N ks[j]]) := app_ok (by have := lim_big'; simp; omega)
      obtain ⟨i1', i2'⟩ := Multi_L2 N hN vm ks hk hl m (j + 1) (a ++ [kop N ks[j]]) (by simp; omega) (by omega) (by omega)
      simp only [dT hjl, if_true, idx_lt ks hjl, Option.bind_some, arrN h4, b1, arrN b3, key_eq N hN ks[j] h4, hap, i1 (show j ≤ 100000 by omega), i1', i2']
      rw [List.drop_eq_getElem_cons hjl, List.map_cons, List.append_assoc]
      exact ⟨rfl, rfl⟩
    · have : ks.drop j = [] := List.drop_eq_nil_of_le (by omega)
      simp only [dF hjl, Bool.false_eq_true, if_false, this, List.map_nil, List.append_nil, and_self]
theorem Multi_both (N : Nat) (hN : 70000 ≤ N) (vm : Int) (ks : List (List Int)) (hk : ∀ k ∈ ks, k.length = 4) (hl : ks.length ≤ 18) : ∃ r, script_Multi N vm ks = some r ∧ ref08_Multi N vm ks = some r := by
  obtain ⟨h1, h2⟩ := Multi_L2 N hN vm ks hk hl N 0 [] (by simp) (by omega) (by omega)
  rw [show ((0 : Nat) : Int) = 0 from rfl, List.nil_append, List.drop_zero] at h1 h2
  have hap : app 48 (ks.map (kop N)) [S_api_Op.mk 11 [] vm (ks.length : Int)] = some (ks.map (kop N) ++ [S_api_Op.mk 11 [] vm (ks.length : Int)]) := app_ok (by have := lim_big'; simp; omega)
  have hs : short (ks.map (kop N) ++ [S_api_Op.mk 11 [] vm (ks.length : Int)]) := by
    refine ⟨by simp; omega, fun o ho => ?_⟩
    simp only [List.mem_append, List.mem_map, List.mem_singleton] at ho
    rcases ho with ⟨k, hk', rfl⟩ | rfl
    · have := (Bytes_both N hN k (hk k hk')).2.2
      simp only [kop]; omega
    · simp
  refine ⟨asm (ks.map (kop N) ++ [S_api_Op.mk 11 [] vm (ks.length : Int)]), ?_, ?_⟩
  · simp only [script_Multi, h1, Option.bind_some, script_Multi_J1, hap, Assemble_eq N hN _ hs]
  · simp only [ref08_Multi, h2, Option.bind_some, ref08_Multi_J1, hap, rAssemble_eq N hN _ hs]
/-! ### The law -/
theorem Standard_J2 (N : Nat) (hN : 70000 ≤ N) (h : List Int) (hh : h.length = 32) (v : Nat) (hv : v < 2 ^ 32) (a b : List Int) (ha : a.length ≤ 600) (hb : b.length ≤ 600) (r : List Int × Int) (w : List Int) (hw : w.length = 4) : law08_ScriptStandard_J2 N h (v : Int) a b r r w = some true := by
  obtain ⟨r1, s1, s2⟩ := Single_both N hN w hw
  obtain ⟨⟨r2, a1, a2⟩, r3, o1, o2⟩ := After_both N hN v hv a ha
  obtain ⟨r4, h1, h2⟩ := Hashed_both N hN h a hh ha
  obtain ⟨r5, e1, e2⟩ := Either_both N hN a b ha hb
  simp only [law08_ScriptStandard_J2, beq_self_eq_true, if_true, Same_self, Option.bind_some, arrN hw, s1, s2, a1, a2, o1, o2, arrN hh, h1, h2, e1, e2, law08_ScriptStandard_J3]
theorem ScriptStandard_true (ks : List (List Int)) (vm : Int) (h : List Int) (vn : Int) (a b : List Int) (hk : ∀ k ∈ ks, k.length = 4) (hh : h.length = 32) (h0 : 0 ≤ vn) (h1 : vn < 2 ^ 32) : law08_ScriptStandard NN ks vm h vn a b = some true := by
  obtain ⟨v, rfl⟩ : ∃ v : Nat, vn = (v : Int) := ⟨vn.toNat, by omega⟩
  have hv : v < 2 ^ 32 := by omega
  unfold law08_ScriptStandard
  simp only [law08_sane, Option.bind_some, Bool.not_true, Bool.false_eq_true, if_false]
  by_cases c1 : 18 < ks.length
  · have e1 : decide (18 < (ks.length : Int)) = true := decide_eq_true (by omega)
    simp only [e1, if_true, law08_ScriptStandard_J1]
  · have e1 : decide (18 < (ks.length : Int)) = false := decide_eq_false (by omega)
    by_cases c2 : 600 < a.length
    · have e2 : decide (600 < (a.length : Int)) = true := decide_eq_true (by omega)
      simp only [e1, e2, Bool.false_eq_true, if_false, if_true, law08_ScriptStandard_J1]
    · have e2 : decide (600 < (a.length : Int)) = false := decide_eq_false (by omega)
      by_cases c3 : 600 < b.length
      · have e3 : decide (600 < (b.length : Int)) = true := decide_eq_true (by omega)
        simp only [e1, e2, e3, Bool.false_eq_true, if_false, if_true, law08_ScriptStandard_J1]
      · have e3 : decide (600 < (b.length : Int)) = false := decide_eq_false (by omega)
        obtain ⟨r, m1, m2⟩ := Multi_both NN (Nat.le_refl _) vm ks hk (by omega)
        simp only [e1, e2, e3, Bool.false_eq_true, if_false, law08_ScriptStandard_J1, m1, m2, Option.bind_some]
        cases ks with
        | nil =>
          have e4 : decide (0 < ((([] : List (List Int)).length : Nat) : Int)) = false := rfl
          simp only [e4, Bool.false_eq_true, if_false]
          exact Standard_J2 NN (Nat.le_refl _) h hh v hv a b (by omega) (by omega) r _ rfl
        | cons k ks =>
          have e4 : decide (0 < (((k :: ks).length : Nat) : Int)) = true := decide_eq_true (by rw [List.length_cons]; omega)
          have e5 : idx (k :: ks) 0 = some k := rfl
          have hk4 := hk k (by simp)
          simp only [e4, if_true, e5, Option.bind_some, arrN hk4]
          exact Standard_J2 NN (Nat.le_refl _) h hh v hv a b (by omega) (by omega) r k hk4
end Go.Proofs.YtheekineakjhdaaDoor
