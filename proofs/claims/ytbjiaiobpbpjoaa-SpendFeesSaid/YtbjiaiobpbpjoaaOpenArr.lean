import Derived.Test.YtbjiaiobpbpjoaaOpen
import Derived.Test.YtbjiaiobpbpjoaaVmArr
import Derived.OpenShut
set_option linter.unusedSimpArgs false
set_option linter.unusedVariables false
namespace Go.Vm
open Go Go.ChangeShapes Go.WideShapes Go.ChangeAt Go.RowKit
section
variable {P : Program} {t e : TypeId}
theorem VCells_map {α : Type} {w : World} {E : α → V} : ∀ (l : List α) (vs : List Value), l.length = vs.length → (∀ (i : Nat) (x : α) (v : Value), l[i]? = some x → vs[i]? = some v → VR NoX [] w (E x) v) → VCells NoX [] w (l.map E) vs
  | [], [], _, _ => VCells_nil
  | [], _ :: _, h, _ => by cases h
  | _ :: _, [], h, _ => by cases h
  | x :: l, v :: vs, h, k => VCells_cons (k 0 x v rfl rfl) (VCells_map l vs (by simpa using h) fun i x' v' h1 h2 => k (i + 1) x' v' (by simpa using h1) (by simpa using h2))
/-- An array of integers: a list with its length. -/
theorem opens_array {n : Nat} {k : IntKind} (ht : P.underlying t = some (.array n e)) (he : P.underlying e = some (.int k)) (h1 : P.cellsOf e = 1) (hn : P.cellsOf t = n) :
    Opens P t (fun x : {l : List Int // l.length = n} => ∀ y ∈ x.1, (Lit.int k y).wf = true) (fun x => x.1.map (eI k)) := by
  intro H enc w spare held fuel cs x h
  obtain ⟨xs, m, _, _, hl, hxs, hf⟩ := DataW.trod_array ht h
  rw [hn] at hl
  have each : ∀ i, i < n → ∃ a : Int, (Lit.int k a).wf = true ∧ ∀ v, cs[i]? = some v → VR NoX [] w (eI k a) v := by
    intro i hi
    have h2 := hf i hi
    rw [h1, Nat.mul_one, List.getElem?_eq_getElem (by omega)] at h2
    obtain ⟨a, hw, hc⟩ := opens_int he h2
    refine ⟨a, hw, fun v hv => ?_⟩
    have e2 : (cs.drop i).take 1 = [v] := by
      obtain ⟨hic, rfl⟩ := List.getElem?_eq_some_iff.1 hv
      rw [List.drop_eq_getElem_cons hic]; rfl
    rw [e2] at hc
    exact VCells_get1 hc
  obtain ⟨l, hll, hr⟩ := list_choice n each
  refine ⟨⟨l, hll⟩, fun y hy => ?_, VCells_map l cs (by omega) fun i x v h1 h2 => (hr i x h1).2 v h2⟩
  obtain ⟨i, hi, rfl⟩ := List.mem_iff_getElem.1 hy
  exact (hr i _ (List.getElem?_eq_getElem hi)).1
theorem okWide_array {w : World} {r : Reach} {base : Nat} {v : Value} {n : Nat} (ht : P.underlying t = some (.array n e)) (h : Value.okWide P w r base t v) : ∃ cs, v = .agg cs := by
  simp only [Value.okWide, ht] at h
  obtain ⟨cs, h1, _⟩ := h
  exact ⟨cs, h1⟩
theorem openV_array {n : Nat} {k : IntKind} (ht : P.underlying t = some (.array n e)) (he : P.underlying e = some (.int k)) (h1 : P.cellsOf e = 1) (hn : P.cellsOf t = n) :
    OpenV P t (fun x : {l : List Int // l.length = n} => ∀ y ∈ x.1, (Lit.int k y).wf = true) (fun x => eA (eI k) x.1) := by
  intro H enc w base v d p hv ⟨fuel, h⟩
  obtain ⟨cs, rfl⟩ := okWide_array ht hv
  obtain ⟨a, hq, hc⟩ := opens_array ht he h1 hn h
  exact ⟨a, hq, by have := VR_agg hc; simpa [Value.cells] using this⟩
/-- A row of arrays of integers. -/
theorem openV_arrays {n : Nat} {k : IntKind} {s : TypeId} (hs : P.underlying s = some (.slice t)) (ht : P.underlying t = some (.array n e)) (he : P.underlying e = some (.int k)) (h1 : P.cellsOf e = 1) (hn : P.cellsOf t = n) (h0 : 0 < n) :
    OpenV P s (fun l : List (List Int) => ∀ x ∈ l, x.length = n ∧ ∀ y ∈ x, (Lit.int k y).wf = true) (eL n (eA (eI k))) := by
  intro H enc w base v d p hv hh
  obtain ⟨a, hq, hc⟩ := openV_slice hs (opens_array ht he h1 hn) hn h0 (elem_agg (K := n) (C := fun x : {l : List Int // l.length = n} => x.1.map (eI k)) (fun x => by simp [x.2]) (fun x => List.all_eq_true.2 fun y hy => by simp only [List.mem_map] at hy; obtain ⟨z, _, rfl⟩ := hy; rfl)) hv hh
  refine ⟨a.map (·.1), fun x hx => ?_, ?_⟩
  · simp only [List.mem_map] at hx
    obtain ⟨y, hy, rfl⟩ := hx
    exact ⟨y.2, hq y hy⟩
  · have : (eL n (eA (eI k)) (a.map (·.1))) = eL n (fun x : {l : List Int // l.length = n} => V.agg (x.1.map (eI k))) a := by
      simp only [eL, List.map_map]; rfl
    rw [this]; exact hc
/-- An array of integers, as a list of its length. -/
theorem opens_arr {n : Nat} {k : IntKind} (ht : P.underlying t = some (.array n e)) (he : P.underlying e = some (.int k)) (h1 : P.cellsOf e = 1) (hn : P.cellsOf t = n) :
    Opens P t (fun x : List Int => x.length = n ∧ ∀ y ∈ x, (Lit.int k y).wf = true) (fun x => x.map (eI k)) := by
  intro H enc w spare held fuel cs x h
  obtain ⟨a, hq, hc⟩ := opens_array ht he h1 hn h
  exact ⟨a.1, ⟨a.2, hq⟩, hc⟩
theorem openV_arr {n : Nat} {k : IntKind} (ht : P.underlying t = some (.array n e)) (he : P.underlying e = some (.int k)) (h1 : P.cellsOf e = 1) (hn : P.cellsOf t = n) :
    OpenV P t (fun x : List Int => x.length = n ∧ ∀ y ∈ x, (Lit.int k y).wf = true) (fun x => eA (eI k) x) := by
  intro H enc w base v d p hv hh
  obtain ⟨a, hq, hc⟩ := openV_array ht he h1 hn hv hh
  exact ⟨a.1, ⟨a.2, hq⟩, hc⟩
theorem opens_arrays {n : Nat} {k : IntKind} {s : TypeId} (hs : P.underlying s = some (.slice t)) (ht : P.underlying t = some (.array n e)) (he : P.underlying e = some (.int k)) (h1 : P.cellsOf e = 1) (hn : P.cellsOf t = n) (h0 : 0 < n) :
    Opens P s (fun l : List (List Int) => ∀ x ∈ l, x.length = n ∧ ∀ y ∈ x, (Lit.int k y).wf = true) (fun l => [.row none n (l.map (eA (eI k)))]) := by
  intro H enc w spare held fuel cs x h
  obtain ⟨a, hq, hc⟩ := opens_slice hs (opens_array ht he h1 hn) hn h0 (elem_agg (K := n) (C := fun x : {l : List Int // l.length = n} => x.1.map (eI k)) (fun x => by simp [x.2]) (fun x => List.all_eq_true.2 fun y hy => by simp only [List.mem_map] at hy; obtain ⟨z, _, rfl⟩ := hy; rfl)) h
  refine ⟨a.map (·.1), fun x hx => ?_, ?_⟩
  · simp only [List.mem_map] at hx
    obtain ⟨y, hy, rfl⟩ := hx
    exact ⟨y.2, hq y hy⟩
  · have : (a.map (·.1)).map (eA (eI k)) = a.map (fun x : {l : List Int // l.length = n} => V.agg (x.1.map (eI k))) := by
      simp only [List.map_map]; rfl
    dsimp only
    rw [this]; exact hc
/-! ### Cells side by side -/
theorem VCells_app {w : World} : ∀ {A B : List V} {us bs : List Value}, VCells NoX [] w A us → VCells NoX [] w B bs → VCells NoX [] w (A ++ B) (us ++ bs)
  | [], B, us, bs, h, k => by
    unfold VCells at h
    subst h
    exact k
  | a :: A, B, us, bs, h, k => by
    unfold VCells at h
    obtain ⟨v, rest, rfl, h1, h2⟩ := h
    exact VCells_cons h1 (VCells_app h2 k)
theorem VCells_at {w : World} {A B : List V} {cs : List Value} {o n : Nat} (h : VCells NoX [] w A ((cs.drop o).take n)) (k : VCells NoX [] w B (cs.drop (o + n))) : VCells NoX [] w (A ++ B) (cs.drop o) := by
  have e : cs.drop o = (cs.drop o).take n ++ cs.drop (o + n) := by rw [← List.drop_drop, List.take_append_drop]
  rw [e]
  exact VCells_app h k
theorem VCells_end {w : World} {cs : List Value} {n : Nat} (h : cs.length = n) : VCells NoX [] w [] (cs.drop n) := by
  rw [List.drop_eq_nil_of_le (by omega)]; exact VCells_nil
end
end Go.Vm
