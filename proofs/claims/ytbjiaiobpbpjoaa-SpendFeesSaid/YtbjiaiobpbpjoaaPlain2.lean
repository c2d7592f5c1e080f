import Derived.Test.YtbjiaiobpbpjoaaPlain1
set_option linter.unusedSimpArgs false
set_option linter.unusedVariables false
namespace Go.Vm
open Go

/-! ### Loops over a list -/
theorem lim_big2 : 100000000 ≤ lim := by decide
theorem appB {l m : List Int} (h : l.length + m.length ≤ 100000000) : app 1 l m = some (l ++ m) := by
  have := lim_big2
  exact app_ok (by omega)
/-- A loop that appends something for each element. -/
theorem loop_flat {α : Type} {f : Nat → Int → List Int → Option (List Int)} {xs : List α} {g : α → List Int} {B : Nat} (hn : xs.length ≤ 100000)
    (hs : ∀ m j acc (hj : j < xs.length), acc.length + (g xs[j]).length ≤ B → f (m + 1) (j : Int) acc = f m ((j + 1 : Nat) : Int) (acc ++ g xs[j])) (he : ∀ m j acc, xs.length ≤ j → f (m + 1) (j : Int) acc = some acc) :
    ∀ (m j : Nat) (acc : List Int), xs.length - j < m → j ≤ xs.length → acc.length + ((xs.drop j).flatMap g).length ≤ B → f m (j : Int) acc = some (acc ++ (xs.drop j).flatMap g)
  | 0, j, acc, hm, _, _ => by omega
  | m + 1, j, acc, hm, hj, hB => by
    by_cases h : j < xs.length
    · rw [List.drop_eq_getElem_cons h, List.flatMap_cons, List.length_append] at hB
      rw [hs m j acc h (by omega), loop_flat hn hs he m (j + 1) _ (by omega) (by omega) (by rw [List.length_append]; omega), List.drop_eq_getElem_cons h, List.flatMap_cons, List.append_assoc]
    · rw [he m j acc (by omega), List.drop_eq_nil_of_le (by omega)]; simp
/-- A loop that stops at the first element that is not so. -/
theorem loop_all {α R : Type} {f : Nat → Int → Option (LR Unit R)} {xs : List α} {p : α → Bool} {r : R}
    (hs : ∀ m j (hj : j < xs.length), f (m + 1) (j : Int) = if p xs[j] = true then f m ((j + 1 : Nat) : Int) else some (.ret r)) (he : ∀ m j, xs.length ≤ j → f (m + 1) (j : Int) = some (.brk ())) :
    ∀ (m j : Nat), xs.length - j < m → j ≤ xs.length → f m (j : Int) = some (if (xs.drop j).all p = true then .brk () else .ret r)
  | 0, j, hm, _ => by omega
  | m + 1, j, hm, hj => by
    by_cases h : j < xs.length
    · rw [hs m j h, loop_all hs he m (j + 1) (by omega) (by omega), List.drop_eq_getElem_cons h, List.all_cons]
      cases p xs[j] <;> simp
    · rw [he m j (by omega), List.drop_eq_nil_of_le (by omega)]; simp
/-- A loop that stops at the first place that is not so. -/
theorem loop_allI {R : Type} {f : Nat → Int → Option (LR Unit R)} {n : Nat} {p : Nat → Bool} {r : R}
    (hs : ∀ m j, j < n → f (m + 1) (j : Int) = if p j = true then f m ((j + 1 : Nat) : Int) else some (.ret r)) (he : ∀ m j, n ≤ j → f (m + 1) (j : Int) = some (.brk ())) :
    ∀ (m j : Nat), n - j < m → j ≤ n → f m (j : Int) = some (if (List.range' j (n - j)).all p = true then .brk () else .ret r)
  | 0, j, hm, _ => by omega
  | m + 1, j, hm, hj => by
    by_cases h : j < n
    · rw [hs m j h, loop_allI hs he m (j + 1) (by omega) (by omega), show n - j = (n - (j + 1)) + 1 by omega, List.range'_succ, List.all_cons]
      cases p j
      · rfl
      · simp only [Bool.true_and, if_true]
    · rw [he m j (by omega), show n - j = 0 by omega]; simp
/-- A loop that changes a state. -/
theorem loop_fold {α σ : Type} {f : Nat → σ → Int → Option σ} {xs : List α} {g : σ → α → σ}
    (hs : ∀ m s j (hj : j < xs.length), f (m + 1) s (j : Int) = f m (g s xs[j]) ((j + 1 : Nat) : Int)) (he : ∀ m s j, xs.length ≤ j → f (m + 1) s (j : Int) = some s) :
    ∀ (m : Nat) (s : σ) (j : Nat), xs.length - j < m → j ≤ xs.length → f m s (j : Int) = some ((xs.drop j).foldl g s)
  | 0, s, j, hm, _ => by omega
  | m + 1, s, j, hm, hj => by
    by_cases h : j < xs.length
    · rw [hs m s j h, loop_fold hs he m _ (j + 1) (by omega) (by omega), List.drop_eq_getElem_cons h, List.foldl_cons]
    · rw [he m s j (by omega), List.drop_eq_nil_of_le (by omega)]; rfl
end Go.Vm
