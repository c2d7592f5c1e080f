import Derived.Test.YtidkaiebgjbekaaDoorPlain27c
set_option linter.unusedSimpArgs false
set_option linter.unusedVariables false
namespace Go.Proofs.YtidkaiebgjbekaaDoor
open Go Go.Vm

/-! ### Prefixes -/
theorem sidx_lt (s : ByteArray) {i : Nat} (h : i < s.size) : ∃ v, sidx s (i : Int) = some v := by
  unfold sidx
  rw [if_pos (by omega), Int.toNat_natCast]
  exact ⟨_, by rw [getElem?_pos s i h]; rfl⟩
theorem Prefix_L3_eq (N : Nat) (s : ByteArray) (hs : s.size ≤ 1000) : ∀ (m j : Nat), s.size - j < m → j ≤ s.size → ∃ r, address_Prefix_L3 N s m (j : Int) = some r ∧ ref27_Prefix_L3 N s m (j : Int) = some r
  | 0, j, hm, _ => by omega
  | m + 1, j, hm, hj => by
    rw [address_Prefix_L3, ref27_Prefix_L3]
    by_cases hjl : j < s.size
    · have e1 : decide ((j : Int) < (s.size : Int)) = true := by simpa using hjl
      have e3 : IntKind.i64.wrap ((j : Int) + 1) = ((j + 1 : Nat) : Int) := by rw [w64 (by omega) (by omega)]; simp
      obtain ⟨v, hv⟩ := sidx_lt s hjl
      obtain ⟨r, h1, h2⟩ := Prefix_L3_eq N s hs m (j + 1) (by omega) (by omega)
      simp only [e1, if_true, hv, Option.bind_some, address_Prefix_J4, ref27_Prefix_J4, e3, h1, h2]
      cases decide (v < 97) <;> cases decide (122 < v) <;> simp
    · have e1 : decide ((j : Int) < (s.size : Int)) = false := by simp; omega
      simp only [e1, Bool.false_eq_true, if_false]
      exact ⟨_, rfl, rfl⟩
theorem Prefix_eq (N : Nat) (hNN : 70000 ≤ N) (s : ByteArray) (hs : s.size ≤ 1000) : ∃ r, address_Prefix N s = some r ∧ ref27_Prefix N s = some r := by
  unfold address_Prefix ref27_Prefix
  obtain ⟨r, h1, h2⟩ := Prefix_L3_eq N s hs N 0 (by omega) (by omega)
  rw [show ((0 : Nat) : Int) = 0 from rfl] at h1 h2
  rw [h1, h2]
  cases r with
  | ret v => exact ⟨v, rfl, rfl⟩
  | brk p =>
    simp only [Option.bind_some, address_Prefix_J1, ref27_Prefix_J1, address_Prefix_J2, ref27_Prefix_J2]
    cases decide (1 ≤ (s.size : Int)) <;> simp
theorem Mod_eq (N : Nat) (v : Int) (n : Nat) (hn : 0 < n) (hn2 : n ≤ 1000) : ∃ m : Nat, m < n ∧ mill_Mod N v (n : Int) = some (m : Int) := by
  unfold mill_Mod
  have e0 : rem v (n : Int) = some (Int.tmod v (n : Int)) := by unfold rem; rw [if_neg (by omega)]
  have h1 : Int.tmod v (n : Int) < n := Int.tmod_lt_of_pos v (by omega)
  have h2 : -(n : Int) < Int.tmod v (n : Int) := Int.lt_tmod_of_pos v (by omega)
  rw [e0]
  simp only [Option.bind_some, mill_Mod_J1]
  by_cases h : Int.tmod v (n : Int) < 0
  · have e1 : decide (Int.tmod v (n : Int) < 0) = true := decide_eq_true h
    simp only [e1, if_true]
    rw [w64 (by omega) (by omega)]
    exact ⟨(Int.tmod v (n : Int) + n).toNat, by omega, by congr 1; omega⟩
  · have e1 : decide (Int.tmod v (n : Int) < 0) = false := decide_eq_false h
    simp only [e1, Bool.false_eq_true, if_false]
    exact ⟨(Int.tmod v (n : Int)).toNat, by omega, by congr 1; omega⟩
theorem strOf_size_aux : ∀ (l : List Int) (b : ByteArray), (l.foldl (fun r n => r.push (UInt8.ofNat n.toNat)) b).size = b.size + l.length
  | [], b => rfl
  | x :: l, b => by rw [List.foldl_cons, strOf_size_aux l, ByteArray.size_push, List.length_cons]; omega
theorem strOf_size (l : List Int) : (strOf l).size = l.length := by unfold strOf; rw [strOf_size_aux]; simp
/-- The texts of the statement are prefixes. -/
theorem five (k : Nat) (hk : k < 5) : ∃ x, idx [(⟨#[108, 99]⟩ : ByteArray), ⟨#[97]⟩, ⟨#[97, 98, 99, 100, 101, 102, 103, 104, 105, 106]⟩, ⟨#[122]⟩, ⟨#[116, 108, 99]⟩] (k : Int) = some x ∧ 0 < x.size ∧ x.size ≤ 10 ∧ address_Prefix NN x = some true := by
  match k, hk with
  | 0, _ => exact ⟨_, rfl, by decide, by decide, by decide +kernel⟩
  | 1, _ => exact ⟨_, rfl, by decide, by decide, by decide +kernel⟩
  | 2, _ => exact ⟨_, rfl, by decide, by decide, by decide +kernel⟩
  | 3, _ => exact ⟨_, rfl, by decide, by decide, by decide +kernel⟩
  | 4, _ => exact ⟨_, rfl, by decide, by decide, by decide +kernel⟩
end Go.Proofs.YtidkaiebgjbekaaDoor
