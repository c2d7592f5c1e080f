import Derived.Test.YtbjiaiobpbpjoaaPlain0
set_option linter.unusedSimpArgs false
set_option linter.unusedVariables false
namespace Go.Vm
open Go

/-! ### Lists of natural numbers -/
theorem lim_big' : 10000000 ≤ lim := by decide
def iN (l : List Nat) : List Int := l.map fun (x : Nat) => (x : Int)
theorem iN_len (l : List Nat) : (iN l).length = l.length := by simp [iN]
theorem iN_idx (l : List Nat) {j : Nat} (h : j < l.length) : idx (iN l) (j : Int) = some ((l[j] : Nat) : Int) := by
  rw [idx_lt _ (by rw [iN_len]; exact h)]; simp [iN]
theorem iN_app (l m : List Nat) : iN l ++ iN m = iN (l ++ m) := by simp [iN]
theorem iN_take (l : List Nat) (k : Nat) : (iN l).take k = iN (l.take k) := by simp [iN, List.map_take]
theorem iN_drop (l : List Nat) (k : Nat) : (iN l).drop k = iN (l.drop k) := by simp [iN, List.map_drop]
theorem iN_byt {l : List Nat} (h : ∀ x ∈ l, x < 256) : Byt (iN l) := by
  intro x hx
  simp only [iN, List.mem_map] at hx
  obtain ⟨y, hy, rfl⟩ := hx
  have := h y hy
  omega
theorem byt_iN {d : List Int} (h : Byt d) : iN (d.map Int.toNat) = d ∧ ∀ x ∈ d.map Int.toNat, x < 256 := by
  constructor
  · simp only [iN, List.map_map]
    conv => rhs; rw [← List.map_id d]
    refine List.map_congr_left fun x hx => ?_
    have := h x hx
    simp only [Function.comp, id]; omega
  · intro x hx
    simp only [List.mem_map] at hx
    obtain ⟨y, hy, rfl⟩ := hx
    have := h y hy
    omega
theorem byt_nat {d : List Int} (h : Byt d) : ∃ l : List Nat, d = iN l ∧ ∀ x ∈ l, x < 256 := ⟨_, (byt_iN h).1.symm, (byt_iN h).2⟩
theorem i1 {j : Nat} (hj : j ≤ 100000) : IntKind.i64.wrap ((j : Int) + 1) = ((j + 1 : Nat) : Int) := by rw [w64 (by omega) (by omega)]; simp
theorem dT {j n : Nat} (h : j < n) : decide ((j : Int) < (n : Int)) = true := by simpa using h
theorem dF {j n : Nat} (h : ¬ j < n) : decide ((j : Int) < (n : Int)) = false := by simp; omega
theorem app1 {l : List Nat} {x : Nat} (h : l.length ≤ 100000) : app 1 (iN l) [(x : Int)] = some (iN (l ++ [x])) := by
  have := lim_big'
  rw [app_ok (by rw [iN_len]; simp; omega)]
  simp [iN]
theorem app2 {l m : List Int} (h : l.length + m.length ≤ 1000000) : app 1 l m = some (l ++ m) := by
  have := lim_big'
  exact app_ok (by omega)
end Go.Vm
