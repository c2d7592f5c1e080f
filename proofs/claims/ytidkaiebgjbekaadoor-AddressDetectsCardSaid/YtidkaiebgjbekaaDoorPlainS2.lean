import Derived.Test.YtidkaiebgjbekaaDoorPlainS1
set_option linter.unusedSimpArgs false
set_option linter.unusedVariables false
namespace Go.Proofs.YtidkaiebgjbekaaDoor
open Go Go.Vm

/-! ### The checksum -/
def bs (s : ByteArray) : List Nat := s.data.toList.map UInt8.toNat
theorem bs_len (s : ByteArray) : (bs s).length = s.size := by unfold bs; rw [List.length_map]; rfl
theorem bs_lt (s : ByteArray) : ∀ x ∈ bs s, x < 256 := by
  intro x hx
  simp only [bs, List.mem_map] at hx
  obtain ⟨y, _, rfl⟩ := hx
  exact UInt8.toNat_lt y
theorem sidx_eq (s : ByteArray) {j : Nat} (h : j < (bs s).length) : sidx s (j : Int) = some (((bs s)[j] : Nat) : Int) := by
  have h' : j < s.size := by rw [← bs_len]; exact h
  unfold sidx
  rw [if_pos (by omega), Int.toNat_natCast, getElem?_pos s j h']
  simp only [Option.map_some, bs, List.getElem_map]
  rfl
theorem and31 (x : Nat) (hx : x < 256) : bits .and .u8 (x : Int) 31 = ((x % 32 : Nat) : Int) := by
  have h1 := bits_and_nat (k := .u8) rfl x 31 hx (by decide)
  rw [show ((31 : Nat) : Int) = 31 from rfl, show (31 : Nat) = 2 ^ 5 - 1 from rfl, Nat.and_two_pow_sub_one_eq_mod] at h1
  exact h1
theorem shr5 (x : Nat) (hx : x < 256) : shr .u8 (x : Int) 5 = some ((x / 32 : Nat) : Int) := shr_nat (k := .u8) x 5 hx
def hi (s : ByteArray) : List Nat := (bs s).map (· / 32)
def lo (s : ByteArray) : List Nat := (bs s).map (· % 32)
def ex (s : ByteArray) : List Nat := hi s ++ [0] ++ lo s
def md (d : List Nat) : List Nat := d.map (· % 32)
theorem i1 {j : Nat} (hj : j ≤ 100000) : IntKind.i64.wrap ((j : Int) + 1) = ((j + 1 : Nat) : Int) := by rw [w64 (by omega) (by omega)]; simp
theorem dT {j n : Nat} (h : j < n) : decide ((j : Int) < (n : Int)) = true := by simpa using h
theorem dF {j n : Nat} (h : ¬ j < n) : decide ((j : Int) < (n : Int)) = false := by simp; omega
theorem lt30 {x : Nat} (h : x < 32) : x < 2 ^ 30 := Nat.lt_trans h (by decide)
theorem L8_eq (N : Nat) (hN : 70000 ≤ N) (s : ByteArray) (d : List Int) (hs : s.size ≤ 1000) : ∀ (m j c : Nat), c < 2 ^ 30 → s.size - j < m → j ≤ s.size → address_Checksum_L8 N s d m (c : Int) (j : Int) = some ((rm c ((hi s).drop j) : Nat) : Int)
  | 0, j, c, _, hm, _ => by omega
  | m + 1, j, c, hc, hm, hj => by
    rw [address_Checksum_L8]
    by_cases hjl : j < s.size
    · have hb : j < (bs s).length := by rw [bs_len]; exact hjl
      have hlt := bs_lt s _ (List.getElem_mem hb)
      have hx : (bs s)[j] / 32 < 32 := by omega
      simp only [dT hjl, if_true, sidx_eq s hb, Option.bind_some, shr5 _ hlt, remainder_one N hN _ hx c hc, i1 (show j ≤ 100000 by omega)]
      rw [L8_eq N hN s d hs m (j + 1) (st1 c ((bs s)[j] / 32)) (st1_lt _ _ (lt30 hx)) (by omega) (by omega), List.drop_eq_getElem_cons (show j < (hi s).length by simpa [hi] using hb)]
      simp [hi, rm]
    · have : (hi s).drop j = [] := List.drop_eq_nil_of_le (by simp [hi, bs_len]; omega)
      simp only [dF hjl, Bool.false_eq_true, if_false, this]
      rfl
theorem L7_eq (N : Nat) (hN : 70000 ≤ N) (s : ByteArray) (d : List Int) (hs : s.size ≤ 1000) : ∀ (m j c : Nat), c < 2 ^ 30 → s.size - j < m → j ≤ s.size → address_Checksum_L7 N s d m (c : Int) (j : Int) = some ((rm c ((lo s).drop j) : Nat) : Int)
  | 0, j, c, _, hm, _ => by omega
  | m + 1, j, c, hc, hm, hj => by
    rw [address_Checksum_L7]
    by_cases hjl : j < s.size
    · have hb : j < (bs s).length := by rw [bs_len]; exact hjl
      have hlt := bs_lt s _ (List.getElem_mem hb)
      have hx : (bs s)[j] % 32 < 32 := by omega
      simp only [dT hjl, if_true, sidx_eq s hb, Option.bind_some, and31 _ hlt, remainder_one N hN _ hx c hc, i1 (show j ≤ 100000 by omega)]
      rw [L7_eq N hN s d hs m (j + 1) (st1 c ((bs s)[j] % 32)) (st1_lt _ _ (lt30 hx)) (by omega) (by omega), List.drop_eq_getElem_cons (show j < (lo s).length by simpa [lo] using hb)]
      simp [lo, rm]
    · have : (lo s).drop j = [] := List.drop_eq_nil_of_le (by simp [lo, bs_len]; omega)
      simp only [dF hjl, Bool.false_eq_true, if_false, this]
      rfl
theorem L6_eq (N : Nat) (hN : 70000 ≤ N) (d : List Nat) (hd : ∀ x ∈ d, x < 256) (hl : d.length ≤ 1000) : ∀ (m j c : Nat), c < 2 ^ 30 → d.length - j < m → j ≤ d.length → address_Checksum_L6 N (iN d) m (c : Int) (j : Int) = some ((rm c ((md d).drop j) : Nat) : Int)
  | 0, j, c, _, hm, _ => by omega
  | m + 1, j, c, hc, hm, hj => by
    rw [address_Checksum_L6, iN_len]
    by_cases hjl : j < d.length
    · have hx : d[j] % 32 < 32 := by omega
      have e4 : Int.tmod ((d[j] : Nat) : Int) 32 = ((d[j] % 32 : Nat) : Int) := tmod_nat _ 32
      simp only [dT hjl, if_true, iN_idx d hjl, Option.bind_some, e4, remainder_one N hN _ hx c hc, i1 (show j ≤ 100000 by omega)]
      rw [L6_eq N hN d hd hl m (j + 1) (st1 c (d[j] % 32)) (st1_lt _ _ (lt30 hx)) (by omega) (by omega), List.drop_eq_getElem_cons (show j < (md d).length by simpa [md] using hjl)]
      simp [md, rm]
    · have : (md d).drop j = [] := List.drop_eq_nil_of_le (by simp [md]; omega)
      simp only [dF hjl, Bool.false_eq_true, if_false, this]
      rfl
/-- The six digits of a number. -/
def dg (r i : Nat) : Nat := r / 2 ^ (25 - 5 * i) % 32
def six (r : Nat) : List Nat := [dg r 0, dg r 1, dg r 2, dg r 3, dg r 4, dg r 5]
def ck (s : ByteArray) (d : List Nat) : List Nat := six (rm 1 (ex s ++ md d ++ List.replicate 6 0) ^^^ 1)
theorem and31' (x : Nat) (hx : x < 2 ^ 32) : bits .and .u8 (IntKind.u8.wrap (x : Int)) 31 = ((x % 32 : Nat) : Int) := by
  have e : IntKind.u8.wrap (x : Int) = ((x % 256 : Nat) : Int) := by rw [IntKind.wrap_u8]; omega
  rw [e, and31 _ (by omega)]
  congr 1; omega
theorem and31'' (x : Nat) (hx : x < 2 ^ 32) : IntKind.u8.wrap (bits .and .u32 (x : Int) 31) = ((x % 32 : Nat) : Int) := by
  have h1 := bits_and_nat (k := .u32) rfl x 31 hx (by decide)
  rw [show ((31 : Nat) : Int) = 31 from rfl, show (31 : Nat) = 2 ^ 5 - 1 from rfl, Nat.and_two_pow_sub_one_eq_mod] at h1
  rw [h1, wu8 (by omega) (by omega)]
theorem xor1 (c : Nat) (hc : c < 2 ^ 30) : bits .xor .u32 (c : Int) 1 = ((c ^^^ 1 : Nat) : Int) ∧ c ^^^ 1 < 2 ^ 30 :=
  ⟨bits_xor_nat (k := .u32) rfl c 1 (Nat.lt_trans hc (by decide)) (by decide), Nat.xor_lt_two_pow hc (by decide)⟩
theorem aix6 {l : List Int} (h : l.length = 6) {i : Nat} (hi : i < 6) : aix 6 l (i : Int) = some (l[i]'(by omega)) := by
  unfold aix
  rw [if_pos (by omega), idx_lt l (by omega)]
theorem L5_step (N : Nat) (c i m : Nat) (l : List Int) (hl : l.length = 6) (hi : i < 6) (hc : c < 2 ^ 30) : address_Checksum_L5 N (c : Int) (m + 1) (i : Int) l = address_Checksum_L5 N (c : Int) m ((i + 1 : Nat) : Int) (l.set i ((dg (c ^^^ 1) i : Nat) : Int)) := by
  rw [address_Checksum_L5]
  have e1 : decide ((i : Int) < 6) = true := by simp; omega
  have e2 : IntKind.i64.wrap (5 * IntKind.i64.wrap (5 - (i : Int))) = ((25 - 5 * i : Nat) : Int) := by rw [w64 (a := 5 - (i : Int)) (by omega) (by omega), w64 (by omega) (by omega)]; omega
  obtain ⟨x1, x2⟩ := xor1 c hc
  have hlt : (c ^^^ 1) / 2 ^ (25 - 5 * i) < 2 ^ 32 := Nat.lt_of_le_of_lt (Nat.div_le_self _ _) (Nat.lt_trans x2 (by decide))
  simp only [e1, if_true, x1, e2, shr_nat (k := .u32) (c ^^^ 1) (25 - 5 * i) (Nat.lt_trans x2 (by decide)), Option.bind_some, aix6 hl hi, i1 (show i ≤ 100000 by omega), and31' _ hlt, Int.toNat_natCast]
  rfl
theorem L5_end (N : Nat) (c : Int) (m : Nat) (l : List Int) : address_Checksum_L5 N c (m + 1) 6 l = some l := by rw [address_Checksum_L5]; simp
theorem L5_eq (N : Nat) (hN : 70000 ≤ N) (c : Nat) (hc : c < 2 ^ 30) : address_Checksum_L5 N (c : Int) N 0 (List.replicate 6 0) = some (iN (six (c ^^^ 1))) := by
  obtain ⟨m, rfl⟩ := Nat.exists_eq_add_of_le' (show 7 ≤ N by omega)
  have h := fun (i m' : Nat) (l : List Int) (hl : l.length = 6) (hi : i < 6) => L5_step (m + 7) c i m' l hl hi hc
  have h0 := h 0 (m + 6) (List.replicate 6 0) rfl (by omega)
  rw [show ((0 : Nat) : Int) = 0 from rfl] at h0
  rw [h0, h 1 (m + 5) _ (by simp) (by omega), h 2 (m + 4) _ (by simp) (by omega), h 3 (m + 3) _ (by simp) (by omega), h 4 (m + 2) _ (by simp) (by omega), h 5 (m + 1) _ (by simp) (by omega), show ((5 + 1 : Nat) : Int) = 6 from rfl, L5_end]
  rfl
theorem rL5_step (N : Nat) (c i m : Nat) (l : List Int) (hl : l.length = 6) (hi : i < 6) (hc : c < 2 ^ 30) : ref27_Checksum_L5 N (c : Int) (m + 1) (i : Int) l = ref27_Checksum_L5 N (c : Int) m ((i + 1 : Nat) : Int) (l.set i ((dg (c ^^^ 1) i : Nat) : Int)) := by
  rw [ref27_Checksum_L5]
  have e1 : decide ((i : Int) < 6) = true := by simp; omega
  have e2 : IntKind.u64.wrap (IntKind.i64.wrap (25 - IntKind.i64.wrap (5 * (i : Int)))) = ((25 - 5 * i : Nat) : Int) := by rw [w64 (a := 5 * (i : Int)) (by omega) (by omega), w64 (by omega) (by omega), wu64 (by omega) (by omega)]; omega
  obtain ⟨x1, x2⟩ := xor1 c hc
  have hlt : (c ^^^ 1) / 2 ^ (25 - 5 * i) < 2 ^ 32 := Nat.lt_of_le_of_lt (Nat.div_le_self _ _) (Nat.lt_trans x2 (by decide))
  simp only [e1, if_true, x1, e2, shr_nat (k := .u32) (c ^^^ 1) (25 - 5 * i) (Nat.lt_trans x2 (by decide)), Option.bind_some, aix6 hl hi, i1 (show i ≤ 100000 by omega), and31'' _ hlt, Int.toNat_natCast]
  rfl
theorem rL5_end (N : Nat) (c : Int) (m : Nat) (l : List Int) : ref27_Checksum_L5 N c (m + 1) 6 l = some l := by rw [ref27_Checksum_L5]; simp
theorem rL5_eq (N : Nat) (hN : 70000 ≤ N) (c : Nat) (hc : c < 2 ^ 30) : ref27_Checksum_L5 N (c : Int) N 0 (List.replicate 6 0) = some (iN (six (c ^^^ 1))) := by
  obtain ⟨m, rfl⟩ := Nat.exists_eq_add_of_le' (show 7 ≤ N by omega)
  have h := fun (i m' : Nat) (l : List Int) (hl : l.length = 6) (hi : i < 6) => rL5_step (m + 7) c i m' l hl hi hc
  have h0 := h 0 (m + 6) (List.replicate 6 0) rfl (by omega)
  rw [show ((0 : Nat) : Int) = 0 from rfl] at h0
  rw [h0, h 1 (m + 5) _ (by simp) (by omega), h 2 (m + 4) _ (by simp) (by omega), h 3 (m + 3) _ (by simp) (by omega), h 4 (m + 2) _ (by simp) (by omega), h 5 (m + 1) _ (by simp) (by omega), show ((5 + 1 : Nat) : Int) = 6 from rfl, rL5_end]
  rfl
theorem hi_lt (s : ByteArray) : ∀ x ∈ hi s, x < 32 := by
  intro x hx
  simp only [hi, List.mem_map] at hx
  obtain ⟨y, hy, rfl⟩ := hx
  have := bs_lt s y hy
  omega
theorem lo_lt (s : ByteArray) : ∀ x ∈ lo s, x < 32 := by
  intro x hx
  simp only [lo, List.mem_map] at hx
  obtain ⟨y, hy, rfl⟩ := hx
  omega
theorem md_lt (d : List Nat) : ∀ x ∈ md d, x < 32 := by
  intro x hx
  simp only [md, List.mem_map] at hx
  obtain ⟨y, hy, rfl⟩ := hx
  omega
theorem all30 {l : List Nat} (h : ∀ x ∈ l, x < 32) : ∀ x ∈ l, x < 2 ^ 30 := fun x hx => lt30 (h x hx)
theorem hi_len (s : ByteArray) : (hi s).length = s.size := by simp [hi, bs_len]
theorem lo_len (s : ByteArray) : (lo s).length = s.size := by simp [lo, bs_len]
theorem md_len (d : List Nat) : (md d).length = d.length := by simp [md]
theorem Checksum_eq (N : Nat) (hN : 70000 ≤ N) (s : ByteArray) (hs : s.size ≤ 1000) (d : List Nat) (hd : ∀ x ∈ d, x < 256) (hl : d.length ≤ 1000) : address_Checksum N s (iN d) = some (iN (ck s d)) := by
  have h8 := L8_eq N hN s (iN d) hs N 0 1 (by decide) (by omega) (by omega)
  have c1 : rm 1 (hi s) < 2 ^ 30 := rm_lt _ _ (by decide) (all30 (hi_lt s))
  have c2 : st1 (rm 1 (hi s)) 0 < 2 ^ 30 := st1_lt _ _ (by decide)
  have h7 := L7_eq N hN s (iN d) hs N 0 _ c2 (by omega) (by omega)
  have c3 := rm_lt _ _ c2 (all30 (lo_lt s))
  have h6 := L6_eq N hN d hd hl N 0 _ c3 (by omega) (by omega)
  have c4 := rm_lt _ _ c3 (all30 (md_lt d))
  have hz := remainder_eq N hN [0, 0, 0, 0, 0, 0] (by simp) (by decide) _ c4
  have c5 := rm_lt [0, 0, 0, 0, 0, 0] _ c4 (by simp)
  have h1 := remainder_one N hN 0 (by omega) _ c1
  simp only [List.drop_zero, show ((0 : Nat) : Int) = 0 from rfl, show ((1 : Nat) : Int) = 1 from rfl] at h8 h7 h6 h1
  rw [show iN [0, 0, 0, 0, 0, 0] = [0, 0, 0, 0, 0, 0] from rfl] at hz
  simp only [address_Checksum, h8, Option.bind_some, address_Checksum_J1, h1, h7, address_Checksum_J2, h6, address_Checksum_J3, hz, L5_eq N hN _ c5, address_Checksum_J4]
  have : arr 6 (iN (six (rm (rm (rm (st1 (rm 1 (hi s)) 0) (lo s)) (md d)) [0, 0, 0, 0, 0, 0] ^^^ 1))) = some (iN (six (rm (rm (rm (st1 (rm 1 (hi s)) 0) (lo s)) (md d)) [0, 0, 0, 0, 0, 0] ^^^ 1))) := rfl
  rw [this]
  simp only [Option.bind_some, ck, ex, rm_app]
  rfl
theorem app1 {l : List Nat} {x : Nat} (h : l.length ≤ 100000) : app 1 (iN l) [(x : Int)] = some (iN (l ++ [x])) := by
  have := lim_big
  rw [app_ok (by rw [iN_len]; simp; omega)]
  simp [iN]
theorem rL8_eq (N : Nat) (s : ByteArray) (d : List Int) (hs : s.size ≤ 1000) : ∀ (m j : Nat) (l : List Nat), l.length ≤ 5000 + j → s.size - j < m → j ≤ s.size → ref27_Checksum_L8 N s d m (j : Int) (iN l) = some (iN (l ++ (hi s).drop j))
  | 0, j, l, _, hm, _ => by omega
  | m + 1, j, l, hll, hm, hj => by
    rw [ref27_Checksum_L8]
    by_cases hjl : j < s.size
    · have hb : j < (bs s).length := by rw [bs_len]; exact hjl
      have hlt := bs_lt s _ (List.getElem_mem hb)
      simp only [dT hjl, if_true, sidx_eq s hb, Option.bind_some, shr5 _ hlt, app1 (l := l) (x := (bs s)[j] / 32) (by omega), i1 (show j ≤ 100000 by omega)]
      rw [rL8_eq N s d hs m (j + 1) (l ++ [(bs s)[j] / 32]) (by simp; omega) (by omega) (by omega), List.drop_eq_getElem_cons (show j < (hi s).length by simpa [hi] using hb)]
      simp [hi]
    · have : (hi s).drop j = [] := List.drop_eq_nil_of_le (by simp [hi, bs_len]; omega)
      simp only [dF hjl, Bool.false_eq_true, if_false, this, List.append_nil]
theorem rL7_eq (N : Nat) (s : ByteArray) (d : List Int) (hs : s.size ≤ 1000) : ∀ (m j : Nat) (l : List Nat), l.length ≤ 5000 + j → s.size - j < m → j ≤ s.size → ref27_Checksum_L7 N s d m (j : Int) (iN l) = some (iN (l ++ (lo s).drop j))
  | 0, j, l, _, hm, _ => by omega
  | m + 1, j, l, hll, hm, hj => by
    rw [ref27_Checksum_L7]
    by_cases hjl : j < s.size
    · have hb : j < (bs s).length := by rw [bs_len]; exact hjl
      have hlt := bs_lt s _ (List.getElem_mem hb)
      simp only [dT hjl, if_true, sidx_eq s hb, Option.bind_some, and31 _ hlt, app1 (l := l) (x := (bs s)[j] % 32) (by omega), i1 (show j ≤ 100000 by omega)]
      rw [rL7_eq N s d hs m (j + 1) (l ++ [(bs s)[j] % 32]) (by simp; omega) (by omega) (by omega), List.drop_eq_getElem_cons (show j < (lo s).length by simpa [lo] using hb)]
      simp [lo]
    · have : (lo s).drop j = [] := List.drop_eq_nil_of_le (by simp [lo, bs_len]; omega)
      simp only [dF hjl, Bool.false_eq_true, if_false, this, List.append_nil]
theorem rL6_eq (N : Nat) (d : List Nat) (hd : ∀ x ∈ d, x < 256) (hl : d.length ≤ 1000) : ∀ (m j : Nat) (l : List Nat), l.length ≤ 10000 + j → d.length - j < m → j ≤ d.length → ref27_Checksum_L6 N (iN d) m (j : Int) (iN l) = some (iN (l ++ (md d).drop j))
  | 0, j, l, _, hm, _ => by omega
  | m + 1, j, l, hll, hm, hj => by
    rw [ref27_Checksum_L6, iN_len]
    by_cases hjl : j < d.length
    · simp only [dT hjl, if_true, iN_idx d hjl, Option.bind_some, and31 _ (hd _ (List.getElem_mem hjl)), app1 (l := l) (x := d[j] % 32) (by omega), i1 (show j ≤ 100000 by omega)]
      rw [rL6_eq N d hd hl m (j + 1) (l ++ [d[j] % 32]) (by simp; omega) (by omega) (by omega), List.drop_eq_getElem_cons (show j < (md d).length by simpa [md] using hjl)]
      simp [md]
    · have : (md d).drop j = [] := List.drop_eq_nil_of_le (by simp [md]; omega)
      simp only [dF hjl, Bool.false_eq_true, if_false, this, List.append_nil]
theorem rChecksum_eq (N : Nat) (hN : 70000 ≤ N) (s : ByteArray) (hs : s.size ≤ 1000) (d : List Nat) (hd : ∀ x ∈ d, x < 256) (hl : d.length ≤ 1000) : ref27_Checksum N s (iN d) = some (iN (ck s d)) := by
  have h8 := rL8_eq N s (iN d) hs N 0 [] (by simp) (by omega) (by omega)
  have h1 := app1 (l := hi s) (x := 0) (by rw [hi_len]; omega)
  have h7 := rL7_eq N s (iN d) hs N 0 (hi s ++ [0]) (by simp [hi_len]; omega) (by omega) (by omega)
  have h6 := rL6_eq N d hd hl N 0 (hi s ++ [0] ++ lo s) (by simp [hi_len, lo_len]; omega) (by omega) (by omega)
  have hall : ∀ x ∈ ex s ++ md d ++ List.replicate 6 0, x < 32 := by
    intro x hx
    simp only [ex, List.mem_append, List.mem_singleton, List.mem_replicate] at hx
    rcases hx with (((hx | hx) | hx) | hx) | hx
    · exact hi_lt s x hx
    · omega
    · exact lo_lt s x hx
    · exact md_lt d x hx
    · omega
  have hr := rremainder_eq N hN (ex s ++ md d ++ List.replicate 6 0) hall (by simp [ex, hi_len, lo_len, md_len]; omega)
  have c5 := rm_lt (ex s ++ md d ++ List.replicate 6 0) 1 (by decide) (all30 hall)
  have ha : app 1 (iN (ex s ++ md d)) [0, 0, 0, 0, 0, 0] = some (iN (ex s ++ md d ++ List.replicate 6 0)) := by
    have := lim_big
    rw [app_ok (by rw [iN_len]; simp [ex, hi_len, lo_len, md_len]; omega)]
    simp [iN]
  simp only [List.drop_zero, List.nil_append, show ((0 : Nat) : Int) = 0 from rfl, show iN [] = [] from rfl] at h8 h7 h6 h1
  simp only [ref27_Checksum, h8, Option.bind_some, ref27_Checksum_J1, h1, h7, ref27_Checksum_J2, h6, ref27_Checksum_J3]
  simp only [ex] at ha hr c5
  simp only [ha, Option.bind_some, hr, rL5_eq N hN _ c5, ref27_Checksum_J4]
  rfl
/-! ### The law -/
theorem prefix_eq (vn : Int) : ∃ x, law27_prefix NN vn = some x ∧ 0 < x.size ∧ x.size ≤ 10 ∧ address_Prefix NN x = some true := by
  obtain ⟨k, hk, ek⟩ := Mod_eq NN vn 5 (by omega) (by omega)
  rw [show ((5 : Nat) : Int) = 5 from rfl] at ek
  obtain ⟨x, hx, hx0, hx1, hxp⟩ := five k hk
  exact ⟨x, by simp only [law27_prefix, ek, Option.bind_some, hx], hx0, hx1, hxp⟩
theorem arr6 (s : ByteArray) (d : List Nat) : arr 6 (iN (ck s d)) = some (iN (ck s d)) := rfl
theorem AddressSums_true (s : ByteArray) (vn : Int) (d : List Int) (hd : Byt d) : law27_AddressSums NN s vn d = some true := by
  unfold law27_AddressSums
  rw [sane_true]
  simp only [Option.bind_some, Bool.not_true, Bool.false_eq_true, if_false]
  by_cases h1 : 30 < s.size
  · have e1 : decide (30 < (s.size : Int)) = true := by simp; omega
    simp only [e1, if_true, law27_AddressSums_J1]
  · have e1 : decide (30 < (s.size : Int)) = false := by simp; omega
    simp only [e1, Bool.false_eq_true, if_false, law27_AddressSums_J1]
    by_cases h2 : 200 < d.length
    · have e2 : decide (200 < (d.length : Int)) = true := by simp; omega
      simp only [e2, if_true]
    · have e2 : decide (200 < (d.length : Int)) = false := by simp; omega
      simp only [e2, Bool.false_eq_true, if_false]
      obtain ⟨x, hx, _, hx1, _⟩ := prefix_eq vn
      obtain ⟨hi1, hi2⟩ := byt_iN hd
      have hl : (d.map Int.toNat).length ≤ 1000 := by simp; omega
      have k1 := Checksum_eq NN (Nat.le_refl _) s (by omega) _ hi2 hl
      have k2 := rChecksum_eq NN (Nat.le_refl _) s (by omega) _ hi2 hl
      have k3 := Checksum_eq NN (Nat.le_refl _) x (by omega) _ hi2 hl
      have k4 := rChecksum_eq NN (Nat.le_refl _) x (by omega) _ hi2 hl
      rw [hi1] at k1 k2 k3 k4
      simp only [k1, k2, Option.bind_some, arr6, beq_self_eq_true, if_true, hx, k3, k4, law27_AddressSums_J2]
end Go.Proofs.YtidkaiebgjbekaaDoor
