import Derived.Test.YtidkaiebgjbekaaDoorPlain27d
set_option linter.unusedSimpArgs false
set_option linter.unusedVariables false
namespace Go.Proofs.YtidkaiebgjbekaaDoor
open Go Go.Vm

/-! ### The remainder -/
def gen : Nat → Nat
  | 0 => 996825010
  | 1 => 642813549
  | 2 => 513874426
  | 3 => 1027748829
  | 4 => 705979059
  | _ => 0
def gk (t k : Nat) : Nat := if t.testBit k then gen k else 0
def gx (t : Nat) : Nat := gk t 0 ^^^ gk t 1 ^^^ gk t 2 ^^^ gk t 3 ^^^ gk t 4
def st1 (c d : Nat) : Nat := (c % 2 ^ 25 * 2 ^ 5) ^^^ d ^^^ gx (c / 2 ^ 25)
def rm (c : Nat) (ds : List Nat) : Nat := ds.foldl st1 c
def iN (l : List Nat) : List Int := l.map fun (x : Nat) => (x : Int)
theorem iN_len (l : List Nat) : (iN l).length = l.length := by simp [iN]
theorem iN_idx (l : List Nat) {j : Nat} (h : j < l.length) : idx (iN l) (j : Int) = some ((l[j] : Nat) : Int) := by
  rw [idx_lt _ (by rw [iN_len]; exact h)]; simp [iN]
theorem iN_app (l m : List Nat) : iN l ++ iN m = iN (l ++ m) := by simp [iN]
theorem iN_byt {l : List Nat} (h : ∀ x ∈ l, x < 256) : Byt (iN l) := by
  intro x hx
  simp only [iN, List.mem_map] at hx
  obtain ⟨y, hy, rfl⟩ := hx
  have := h y hy
  omega
theorem byt_iN {d : List Int} (h : Byt d) : iN (d.map Int.toNat) = d ∧ ∀ x ∈ d.map Int.toNat, x < 256 := by
  constructor
  · simp only [iN, List.map_map]
    conv => rhs; rw [← List.map_id d]
    refine List.map_congr_left fun x hx => ?_
    have := h x hx
    simp only [Function.comp, id]; omega
  · intro x hx
    simp only [List.mem_map] at hx
    obtain ⟨y, hy, rfl⟩ := hx
    have := h y hy
    omega
theorem gen_lt (k : Nat) : gen k < 2 ^ 30 := by unfold gen; split <;> decide
theorem gk_lt (t k : Nat) : gk t k < 2 ^ 30 := by
  unfold gk; split
  · exact gen_lt k
  · decide
theorem gx_lt (t : Nat) : gx t < 2 ^ 30 :=
  Nat.xor_lt_two_pow (Nat.xor_lt_two_pow (Nat.xor_lt_two_pow (Nat.xor_lt_two_pow (gk_lt ..) (gk_lt ..)) (gk_lt ..)) (gk_lt ..)) (gk_lt ..)
theorem st1_lt (c d : Nat) (hd : d < 2 ^ 30) : st1 c d < 2 ^ 30 := by
  unfold st1
  refine Nat.xor_lt_two_pow (Nat.xor_lt_two_pow ?_ hd) (gx_lt _)
  have := Nat.mod_lt c (show 2 ^ 25 > 0 by decide)
  omega
theorem rm_lt : ∀ (ds : List Nat) (c : Nat), c < 2 ^ 30 → (∀ x ∈ ds, x < 2 ^ 30) → rm c ds < 2 ^ 30
  | [], c, h, _ => h
  | d :: ds, c, h, hd => rm_lt ds (st1 c d) (st1_lt c d (hd d (by simp))) (fun x hx => hd x (by simp [hx]))
theorem rm_app (c : Nat) (a b : List Nat) : rm c (a ++ b) = rm (rm c a) b := List.foldl_append ..
theorem and1 (a : Nat) (ha : a < 2 ^ 32) (k : Nat) : (bits .and .u32 ((a / 2 ^ k : Nat) : Int) 1 == 1) = a.testBit k := by
  have h1 := bits_and_nat (k := .u32) rfl (a / 2 ^ k) 1 (Nat.lt_of_le_of_lt (Nat.div_le_self _ _) ha) (by decide)
  rw [show ((1 : Nat) : Int) = 1 from rfl] at h1
  rw [h1, Nat.and_one_is_mod, Nat.testBit_eq_decide_div_mod_eq]
  generalize a / 2 ^ k % 2 = z
  by_cases hz : z = 1
  · subst hz; rfl
  · simp only [hz, decide_false, beq_eq_false_iff_ne, ne_eq]; omega
theorem gens_eq {k : Nat} (hk : k < 5) : aix 5 gens (k : Int) = some ((gen k : Nat) : Int) := by
  match k, hk with
  | 0, _ => rfl
  | 1, _ => rfl
  | 2, _ => rfl
  | 3, _ => rfl
  | 4, _ => rfl
theorem L4_step (N : Nat) (ds : List Int) (x : Int) (t c k m : Nat) (hk : k < 5) (ht : t < 32) (hc : c < 2 ^ 30) : address_remainder_L4 N ds x (t : Int) (m + 1) (c : Int) (k : Int) = address_remainder_L4 N ds x (t : Int) m ((c ^^^ gk t k : Nat) : Int) ((k + 1 : Nat) : Int) := by
  rw [address_remainder_L4]
  have e1 : decide ((k : Int) < 5) = true := by simp; omega
  have e3 : IntKind.i64.wrap ((k : Int) + 1) = ((k + 1 : Nat) : Int) := by rw [w64 (by omega) (by omega)]; simp
  simp only [e1, if_true, shr_nat (k := .u32) t k (show t < 2 ^ 32 by omega), Option.bind_some, and1 t (by omega) k, gens_eq hk, address_remainder_J5, e3]
  unfold gk
  cases t.testBit k with
  | true =>
    simp only [if_true]
    rw [bits_xor_nat (k := .u32) rfl c (gen k) (show c < 2 ^ 32 by omega) (Nat.lt_trans (gen_lt k) (by decide))]
  | false => simp
theorem L4_end (N : Nat) (ds : List Int) (x t c : Int) (m : Nat) : address_remainder_L4 N ds x t (m + 1) c 5 = some c := by
  rw [address_remainder_L4]; simp
theorem L4_eq (N : Nat) (hN : 70000 ≤ N) (ds : List Int) (x : Int) (t c : Nat) (ht : t < 32) (hc : c < 2 ^ 30) : address_remainder_L4 N ds x (t : Int) N (c : Int) 0 = some ((c ^^^ gx t : Nat) : Int) := by
  obtain ⟨m, rfl⟩ := Nat.exists_eq_add_of_le' (show 6 ≤ N by omega)
  have h := fun (c k m' : Nat) (hk : k < 5) (hc : c < 2 ^ 30) => L4_step (m + 6) ds x t c k m' hk ht hc
  have hx := fun (a k : Nat) (ha : a < 2 ^ 30) => Nat.xor_lt_two_pow ha (gk_lt t k)
  have h0 := h c 0 (m + 5) (by omega) hc
  rw [show ((0 : Nat) : Int) = 0 from rfl] at h0
  rw [h0, h _ 1 (m + 4) (by omega) (hx _ _ hc), h _ 2 (m + 3) (by omega) (hx _ _ (hx _ _ hc)), h _ 3 (m + 2) (by omega) (hx _ _ (hx _ _ (hx _ _ hc))), h _ 4 (m + 1) (by omega) (hx _ _ (hx _ _ (hx _ _ (hx _ _ hc)))), show ((4 + 1 : Nat) : Int) = 5 from rfl, L4_end]
  unfold gx
  simp only [Nat.xor_assoc]
theorem gens_eq' {k : Nat} (hk : k < 5) : aix 5 [996825010, 642813549, 513874426, 1027748829, 705979059] (k : Int) = some ((gen k : Nat) : Int) := gens_eq hk
theorem rL4_step (N : Nat) (ds : List Int) (x : Int) (t c k m : Nat) (hk : k < 5) (ht : t < 32) (hc : c < 2 ^ 30) : ref27_remainder_L4 N ds x (t : Int) (m + 1) (c : Int) (k : Int) = ref27_remainder_L4 N ds x (t : Int) m ((c ^^^ gk t k : Nat) : Int) ((k + 1 : Nat) : Int) := by
  rw [ref27_remainder_L4]
  have e1 : decide ((k : Int) < 5) = true := by simp; omega
  have e2 : IntKind.u64.wrap (k : Int) = (k : Int) := wu64 (by omega) (by omega)
  have e3 : IntKind.i64.wrap ((k : Int) + 1) = ((k + 1 : Nat) : Int) := by rw [w64 (by omega) (by omega)]; simp
  simp only [e1, e2, if_true, shr_nat (k := .u32) t k (show t < 2 ^ 32 by omega), Option.bind_some, and1 t (by omega) k, gens_eq' hk, ref27_remainder_J5, e3]
  unfold gk
  cases t.testBit k with
  | true =>
    simp only [if_true]
    rw [bits_xor_nat (k := .u32) rfl c (gen k) (show c < 2 ^ 32 by omega) (Nat.lt_trans (gen_lt k) (by decide))]
  | false => simp
theorem rL4_end (N : Nat) (ds : List Int) (x t c : Int) (m : Nat) : ref27_remainder_L4 N ds x t (m + 1) c 5 = some c := by
  rw [ref27_remainder_L4]; simp
theorem rL4_eq (N : Nat) (hN : 70000 ≤ N) (ds : List Int) (x : Int) (t c : Nat) (ht : t < 32) (hc : c < 2 ^ 30) : ref27_remainder_L4 N ds x (t : Int) N (c : Int) 0 = some ((c ^^^ gx t : Nat) : Int) := by
  obtain ⟨m, rfl⟩ := Nat.exists_eq_add_of_le' (show 6 ≤ N by omega)
  have h := fun (c k m' : Nat) (hk : k < 5) (hc : c < 2 ^ 30) => rL4_step (m + 6) ds x t c k m' hk ht hc
  have hx := fun (a k : Nat) (ha : a < 2 ^ 30) => Nat.xor_lt_two_pow ha (gk_lt t k)
  have h0 := h c 0 (m + 5) (by omega) hc
  rw [show ((0 : Nat) : Int) = 0 from rfl] at h0
  rw [h0, h _ 1 (m + 4) (by omega) (hx _ _ hc), h _ 2 (m + 3) (by omega) (hx _ _ (hx _ _ hc)), h _ 3 (m + 2) (by omega) (hx _ _ (hx _ _ (hx _ _ hc))), h _ 4 (m + 1) (by omega) (hx _ _ (hx _ _ (hx _ _ (hx _ _ hc)))), show ((4 + 1 : Nat) : Int) = 5 from rfl, rL4_end]
  unfold gx
  simp only [Nat.xor_assoc]
/-- One digit. -/
theorem dig_words (c d : Nat) (hc : c < 2 ^ 30) (hd : d < 32) :
    shr .u32 (c : Int) 25 = some ((c / 2 ^ 25 : Nat) : Int) ∧ shl .u32 (bits .and .u32 (c : Int) 33554431) 5 = some ((c % 2 ^ 25 * 2 ^ 5 : Nat) : Int) ∧
    bits .xor .u32 ((c % 2 ^ 25 * 2 ^ 5 : Nat) : Int) (IntKind.u32.wrap (d : Int)) = (((c % 2 ^ 25 * 2 ^ 5) ^^^ d : Nat) : Int) ∧ (c % 2 ^ 25 * 2 ^ 5) ^^^ d < 2 ^ 30 ∧ c / 2 ^ 25 < 32 := by
  have hm := Nat.mod_lt c (show 2 ^ 25 > 0 by decide)
  have hl : c % 2 ^ 25 * 2 ^ 5 < 2 ^ 30 := by omega
  refine ⟨shr_nat (k := .u32) c 25 (Nat.lt_trans hc (by decide)), ?_, ?_, Nat.xor_lt_two_pow hl (Nat.lt_trans hd (by decide)), by omega⟩
  · have h1 := bits_and_nat (k := .u32) rfl c 33554431 (Nat.lt_trans hc (by decide)) (by decide)
    rw [show ((33554431 : Nat) : Int) = 33554431 from rfl, show (33554431 : Nat) = 2 ^ 25 - 1 from rfl, Nat.and_two_pow_sub_one_eq_mod] at h1
    have h2 := shl_nat (k := .u32) rfl (c % 2 ^ 25) 5
    rw [show ((5 : Nat) : Int) = 5 from rfl] at h2
    rw [h1, h2, Nat.mod_eq_of_lt (show c % 2 ^ 25 * 2 ^ 5 < 2 ^ IntKind.u32.bits from Nat.lt_trans hl (by decide))]
  · rw [show IntKind.u32.wrap (d : Int) = (d : Int) from wu32 (by omega) (by omega)]
    exact bits_xor_nat (k := .u32) rfl _ d (Nat.lt_trans hl (by decide)) (Nat.lt_trans hd (by decide))
theorem remainder_L2_eq (N : Nat) (hN : 70000 ≤ N) (ds : List Nat) (hd : ∀ x ∈ ds, x < 32) (hl : ds.length ≤ 60000) : ∀ (m j c : Nat), c < 2 ^ 30 → ds.length - j < m → j ≤ ds.length → address_remainder_L2 N (iN ds) m (c : Int) (j : Int) = some ((rm c (ds.drop j) : Nat) : Int)
  | 0, j, c, _, hm, _ => by omega
  | m + 1, j, c, hc, hm, hj => by
    rw [address_remainder_L2, iN_len]
    by_cases hjl : j < ds.length
    · have e1 : decide ((j : Int) < (ds.length : Int)) = true := by simpa using hjl
      have e3 : IntKind.i64.wrap ((j : Int) + 1) = ((j + 1 : Nat) : Int) := by rw [w64 (by omega) (by omega)]; simp
      obtain ⟨w1, w2, w3, w4, w5⟩ := dig_words c ds[j] hc (hd _ (List.getElem_mem hjl))
      have hx : st1 c ds[j] < 2 ^ 30 := st1_lt c _ (Nat.lt_trans (hd _ (List.getElem_mem hjl)) (by decide))
      simp only [e1, if_true, iN_idx ds hjl, Option.bind_some, w1, w2, w3, L4_eq N hN _ _ _ _ w5 w4, address_remainder_J3, e3]
      rw [List.drop_eq_getElem_cons hjl]
      exact remainder_L2_eq N hN ds hd hl m (j + 1) (st1 c ds[j]) hx (by omega) (by omega)
    · have e1 : decide ((j : Int) < (ds.length : Int)) = false := by simp; omega
      have : ds.drop j = [] := List.drop_eq_nil_of_le (by omega)
      simp only [e1, Bool.false_eq_true, if_false, this]
      rfl
theorem remainder_eq (N : Nat) (hN : 70000 ≤ N) (ds : List Nat) (hd : ∀ x ∈ ds, x < 32) (hl : ds.length ≤ 60000) (c : Nat) (hc : c < 2 ^ 30) : address_remainder N (c : Int) (iN ds) = some ((rm c ds : Nat) : Int) := by
  unfold address_remainder
  have := remainder_L2_eq N hN ds hd hl N 0 c hc (by omega) (by omega)
  rw [show ((0 : Nat) : Int) = 0 from rfl] at this
  rw [this]; rfl
theorem remainder_one (N : Nat) (hN : 70000 ≤ N) (d : Nat) (hd : d < 32) (c : Nat) (hc : c < 2 ^ 30) : address_remainder N (c : Int) [(d : Int)] = some ((st1 c d : Nat) : Int) :=
  remainder_eq N hN [d] (by simpa using hd) (by simp) c hc
theorem rremainder_L2_eq (N : Nat) (hN : 70000 ≤ N) (ds : List Nat) (hd : ∀ x ∈ ds, x < 32) (hl : ds.length ≤ 60000) : ∀ (m j c : Nat), c < 2 ^ 30 → ds.length - j < m → j ≤ ds.length → ref27_remainder_L2 N (iN ds) m (c : Int) (j : Int) = some ((rm c (ds.drop j) : Nat) : Int)
  | 0, j, c, _, hm, _ => by omega
  | m + 1, j, c, hc, hm, hj => by
    rw [ref27_remainder_L2, iN_len]
    by_cases hjl : j < ds.length
    · have e1 : decide ((j : Int) < (ds.length : Int)) = true := by simpa using hjl
      have e3 : IntKind.i64.wrap ((j : Int) + 1) = ((j + 1 : Nat) : Int) := by rw [w64 (by omega) (by omega)]; simp
      obtain ⟨w1, w2, w3, w4, w5⟩ := dig_words c ds[j] hc (hd _ (List.getElem_mem hjl))
      have hx : st1 c ds[j] < 2 ^ 30 := st1_lt c _ (Nat.lt_trans (hd _ (List.getElem_mem hjl)) (by decide))
      simp only [e1, if_true, iN_idx ds hjl, Option.bind_some, w1, w2, w3, rL4_eq N hN _ _ _ _ w5 w4, ref27_remainder_J3, e3]
      rw [List.drop_eq_getElem_cons hjl]
      exact rremainder_L2_eq N hN ds hd hl m (j + 1) (st1 c ds[j]) hx (by omega) (by omega)
    · have e1 : decide ((j : Int) < (ds.length : Int)) = false := by simp; omega
      have : ds.drop j = [] := List.drop_eq_nil_of_le (by omega)
      simp only [e1, Bool.false_eq_true, if_false, this]
      rfl
theorem rremainder_eq (N : Nat) (hN : 70000 ≤ N) (ds : List Nat) (hd : ∀ x ∈ ds, x < 32) (hl : ds.length ≤ 60000) : ref27_remainder N (iN ds) = some ((rm 1 ds : Nat) : Int) := by
  unfold ref27_remainder
  have := rremainder_L2_eq N hN ds hd hl N 0 1 (by decide) (by omega) (by omega)
  rw [show ((0 : Nat) : Int) = 0 from rfl, show ((1 : Nat) : Int) = 1 from rfl] at this
  rw [this]; rfl
end Go.Proofs.YtidkaiebgjbekaaDoor
