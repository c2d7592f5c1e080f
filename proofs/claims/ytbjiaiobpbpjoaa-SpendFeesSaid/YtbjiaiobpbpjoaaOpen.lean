import Derived.Test.YtbjiaiobpbpjoaaLift2
set_option linter.unusedSimpArgs false
set_option linter.unusedVariables false
namespace Go.Vm
open Go Go.ChangeShapes Go.WideShapes Go.ChangeAt Go.RowKit

/-! ### What is handed in, as plain values -/
/-- The cells of a value of type t read as a plain value. -/
def Opens (P : Program) (t : TypeId) {α : Type} (Q : α → Prop) (C : α → List V) : Prop :=
  ∀ {H : Type} {enc : TypeId × Value → H} {w : World} {spare : Nat → Bool} {held : Bool} {fuel : Nat} {cs : List Value} {x : DataW H × List MemPlace}, DataW.trod enc P w 0 spare held fuel t cs = some x → ∃ a : α, Q a ∧ VCells NoX [] w (C a) cs
section
variable {P : Program} {t e : TypeId}
theorem opens_int {k : IntKind} (ht : P.underlying t = some (.int k)) : Opens P t (fun x : Int => (Lit.int k x).wf = true) (fun x => [eI k x]) := by
  intro H enc w spare held fuel cs x h
  obtain ⟨n, rfl, _, hw⟩ := DataW.trod_int ht h
  exact ⟨n, hw, VCells_cons (VR_sc _) VCells_nil⟩
theorem opens_bool (ht : P.underlying t = some .bool) : Opens P t (fun _ : Bool => True) (fun x => [eB x]) := by
  intro H enc w spare held fuel cs x h
  obtain ⟨n, rfl, _⟩ := DataW.trod_bool ht h
  exact ⟨n, trivial, VCells_cons (VR_sc _) VCells_nil⟩
theorem opens_string (ht : P.underlying t = some .string) : Opens P t (fun s : ByteArray => s.size ≤ maxLen) (fun x => [eS x]) := by
  intro H enc w spare held fuel cs x h
  obtain ⟨n, rfl, _, hw⟩ := DataW.trod_string ht h
  exact ⟨n, hw, VCells_cons (VR_sc _) VCells_nil⟩
theorem list_choice {α : Type} {R : Nat → α → Prop} : ∀ (n : Nat), (∀ i, i < n → ∃ x, R i x) → ∃ l : List α, l.length = n ∧ ∀ i x, l[i]? = some x → R i x
  | 0, _ => ⟨[], rfl, fun i x hx => by simp at hx⟩
  | n + 1, h => by
    obtain ⟨l, hl, hr⟩ := list_choice n (fun i hi => h i (by omega))
    obtain ⟨x, hx⟩ := h n (by omega)
    refine ⟨l ++ [x], by simp [hl], fun i y hy => ?_⟩
    rcases get_snoc hy with hy | ⟨hi, hy⟩
    · exact hr i y hy
    · subst hy; rw [hi, hl]; exact hx
theorem VRow_of {X : Nat → Prop} {M : List (Option Nat)} {w : World} {K : Nat} : ∀ (es : List V) (ad : Addr), (∀ i e, es[i]? = some e → ∃ v, VR X M w e v ∧ v.cells.size = K ∧ LiesAt w (ad.add (i * K)) v.cells) → VRow X M w K es ad
  | [], ad, _ => by unfold VRow; trivial
  | e :: es, ad, h => by
    unfold VRow
    obtain ⟨v, h1, h2, h3⟩ := h 0 e rfl
    refine ⟨⟨v, h1, h2, by simpa [Addr.add] using h3⟩, VRow_of es (ad.add K) fun i e' he => ?_⟩
    obtain ⟨v', k1, k2, k3⟩ := h (i + 1) e' (by simpa using he)
    refine ⟨v', k1, k2, ?_⟩
    rw [add_add, show K + i * K = (i + 1) * K by rw [Nat.add_mul]; omega]
    exact k3
/-- How an element's cells make a value. -/
def Elem {α : Type} (K : Nat) (C : α → List V) (E : α → V) : Prop := ∀ x, (E x).okElem K = true ∧ ∀ (w : World) (vs : List Value), VCells NoX [] w (C x) vs → ∃ v, VR NoX [] w (E x) v ∧ v.cells = vs.toArray
theorem elem_one {α : Type} {E : α → V} (h : ∀ x, (E x).one = true) : Elem 1 (fun x => [E x]) E := by
  intro x
  have hc : (E x).cells = [E x] := by have := h x; generalize E x = y at this ⊢; cases y <;> first | rfl | simp [V.one] at this
  refine ⟨by simp [V.okElem, V.flatOk, hc, h x], fun w vs hv => ?_⟩
  unfold VCells at hv
  obtain ⟨v, rest, rfl, h1, h2⟩ := hv
  unfold VCells at h2
  subst h2
  exact ⟨v, h1, by rw [cells_of_oneCell (h1.oneCell (h x))]⟩
theorem elem_agg {α : Type} {K : Nat} {C : α → List V} (hl : ∀ x, (C x).length = K) (h : ∀ x, (C x).all V.one = true) : Elem K C (fun x => .agg (C x)) := by
  intro x
  refine ⟨by simp [V.okElem, V.flatOk, V.cells, h x, hl x], fun w vs hv => ⟨.agg vs.toArray, VR_agg hv, rfl⟩⟩
theorem opens_slice {α : Type} {Q : α → Prop} {C : α → List V} {E : α → V} {K : Nat} (ht : P.underlying t = some (.slice e)) (he : Opens P e Q C) (hK : P.cellsOf e = K) (h0 : 0 < K) (hE : Elem K C E) :
    Opens P t (fun l : List α => ∀ x ∈ l, Q x) (fun l => [.row none K (l.map E)]) := by
  intro H enc w spare held fuel cs x h
  rcases DataW.trod_slice ht h with ⟨rfl, _⟩ | ⟨a, len, cap, elems, rest, n, _, rfl, _, _, hl, hm, hlen, hel, _, _⟩
  · refine ⟨[], by simp, VCells_cons ?_ VCells_nil⟩
    unfold VR
    exact ⟨none, 0, rfl, Nat.le_refl _, fun _ => rfl, (fun b hb => by cases hb), by simp, fun hne => absurd rfl hne⟩
  · have each : ∀ i, i < len → ∃ x, Q x ∧ ∃ vs, w.cells? 0 (a.add (i * K)) K = some vs ∧ VCells NoX [] w (C x) vs := by
      intro i hi
      have h1 := hel i hi
      rw [hK, List.getElem?_eq_getElem (by omega)] at h1
      simp only [Option.bind_eq_some_iff] at h1
      obtain ⟨vs, h2, h3⟩ := h1
      obtain ⟨x, hq, hv⟩ := he h3
      exact ⟨x, hq, vs, h2, hv⟩
    obtain ⟨l, hll, hr⟩ := list_choice len each
    have hlm : (l.map E).length = len := by simp [hll]
    refine ⟨l, fun x hx => ?_, VCells_cons ?_ VCells_nil⟩
    · obtain ⟨i, hi, rfl⟩ := List.mem_iff_getElem.1 hx
      exact (hr i _ (List.getElem?_eq_getElem hi)).1
    · unfold VR
      refine ⟨some a, cap, by rw [hlm], by rw [hlm]; exact hl, fun hh => (by cases hh), (fun b hb => by cases hb), fun y hy => ?_, fun hne => ?_⟩
      · simp only [List.mem_map] at hy
        obtain ⟨x, _, rfl⟩ := hy
        exact (hE x).1
      · have hpos : 0 < len := by
          rcases Nat.eq_zero_or_pos len with h0 | h0
          · exact absurd (List.eq_nil_of_length_eq_zero (by rw [hlm]; exact h0)) hne
          · exact h0
        have lies : ∀ (ad : Addr) (vs : List Value), w.cells? 0 ad K = some vs → vs.length = K ∧ LiesAt w ad vs.toArray := by
          intro ad vs hvs
          obtain ⟨h1, h2⟩ := World.cells?_some hvs
          have h3 : vs.length = K ∧ ∀ i, i < K → w.cell? (ad.add i) = vs[i]? := by
            unfold World.cells? at hvs
            rw [if_pos (Nat.zero_le _)] at hvs
            obtain ⟨hl, hget⟩ := mapM_get hvs
            simp only [List.length_range] at hl
            refine ⟨hl.symm, fun i hi => ?_⟩
            have hv : i < vs.length := by omega
            rw [List.getElem?_eq_getElem hv]
            exact hget i i vs[i] (by simp [hi]) (List.getElem?_eq_getElem hv)
          refine ⟨h3.1, fun j u hu => ?_⟩
          have hj : j < K := by have := (Array.getElem?_eq_some_iff.1 hu).1; simp at this; omega
          rw [h3.2 j hj]; simpa using hu
        obtain ⟨x0, _, vs0, hc0, _⟩ := each 0 hpos
        obtain ⟨hl0, hlies0⟩ := lies _ _ hc0
        have hsp : a.spot = none := by
          have hv : 0 < vs0.length := by omega
          have := World.cell?_spot (hlies0 0 vs0[0] (by simp [hv]))
          simpa [Addr.add] using this
        refine ⟨a, rfl, h0, id, hsp, VRow_of _ _ fun i y hy => ?_⟩
        simp only [List.getElem?_map, Option.map_eq_some_iff] at hy
        obtain ⟨x, hx, rfl⟩ := hy
        obtain ⟨_, vs, hcs, hv⟩ := hr i x hx
        obtain ⟨hl1, hlies⟩ := lies _ _ hcs
        obtain ⟨v, hv1, hv2⟩ := (hE x).2 w vs hv
        exact ⟨v, hv1, by rw [hv2]; simp [hl1], by rw [hv2]; exact hlies⟩
/-- A whole argument. -/
def OpenV (P : Program) (t : TypeId) {α : Type} (Q : α → Prop) (E : α → V) : Prop :=
  ∀ {H : Type} {enc : TypeId × Value → H} {w : World} {base : Nat} {v : Value} {d : DataW H} {p : List MemPlace}, Value.okWide P w .any base t v → DataW.Trod enc P w 0 (fun _ => true) true t v d p → ∃ a : α, Q a ∧ VR NoX [] w (E a) v
theorem VCells_get1 {w : World} {c : V} {v : Value} (h : VCells NoX [] w [c] [v]) : VR NoX [] w c v := by
  unfold VCells at h
  obtain ⟨u, rest, h1, h2, _⟩ := h
  injection h1 with h1 h3
  subst h1
  exact h2
theorem openV_int {k : IntKind} (ht : P.underlying t = some (.int k)) : OpenV P t (fun x : Int => (Lit.int k x).wf = true) (eI k) := by
  intro H enc w base v d p hv ⟨fuel, h⟩
  obtain ⟨n, rfl⟩ := okWide_int ht hv
  obtain ⟨a, hq, hc⟩ := opens_int ht h
  exact ⟨a, hq, VCells_get1 hc⟩
theorem openV_bool (ht : P.underlying t = some .bool) : OpenV P t (fun _ : Bool => True) eB := by
  intro H enc w base v d p hv ⟨fuel, h⟩
  obtain ⟨n, rfl⟩ := okWide_bool ht hv
  obtain ⟨a, hq, hc⟩ := opens_bool ht h
  exact ⟨a, hq, VCells_get1 hc⟩
theorem openV_string (ht : P.underlying t = some .string) : OpenV P t (fun s : ByteArray => s.size ≤ maxLen) eS := by
  intro H enc w base v d p hv ⟨fuel, h⟩
  obtain ⟨n, rfl⟩ := okWide_string ht hv
  obtain ⟨a, hq, hc⟩ := opens_string ht h
  exact ⟨a, hq, VCells_get1 hc⟩
theorem openV_slice {α : Type} {Q : α → Prop} {C : α → List V} {E : α → V} {K : Nat} (ht : P.underlying t = some (.slice e)) (he : Opens P e Q C) (hK : P.cellsOf e = K) (h0 : 0 < K) (hE : Elem K C E) : OpenV P t (fun l : List α => ∀ x ∈ l, Q x) (eL K E) := by
  intro H enc w base v d p hv ⟨fuel, h⟩
  obtain ⟨a, l, c, rfl⟩ := okWide_slice ht hv
  obtain ⟨a, hq, hc⟩ := opens_slice ht he hK h0 hE h
  exact ⟨a, hq, VCells_get1 hc⟩
theorem openV_struct {α : Type} {Q : α → Prop} {C : α → List V} {fs : Array Field} (ht : P.underlying t = some (.struct fs)) (ho : Opens P t Q C) : OpenV P t Q (fun x => .agg (C x)) := by
  intro H enc w base v d p hv ⟨fuel, h⟩
  obtain ⟨cs, rfl, _⟩ := okWide_struct ht hv
  obtain ⟨a, hq, hc⟩ := ho h
  exact ⟨a, hq, by have := VR_agg hc; simpa [Value.cells] using this⟩
end
end Go.Vm
