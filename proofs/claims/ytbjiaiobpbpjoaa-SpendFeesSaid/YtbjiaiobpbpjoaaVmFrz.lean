import Derived.Test.YtbjiaiobpbpjoaaVmBrw
set_option linter.unusedSimpArgs false
set_option linter.unusedVariables false
namespace Go.Vm
open Go

/-! ### Rows that are no longer written -/
/-- What is known with the heap h is known otherwise with h'. -/
def Conv (h h' : Hp) (x y : V) : Prop := ∀ (A : Nat → Prop) (M : List (Option Nat)) (w : World) (v : Value), HR A M h w → VR (Xs A M h) M w x v → VR (Xs A M h') M w y v
def Convs (h h' : Hp) : List V → List V → Prop
  | [], [] => True
  | x :: xs, y :: ys => Conv h h' x y ∧ Convs h h' xs ys
  | _, _ => False
/-- The blocks of h' are blocks of h. -/
def Sub (h h' : Hp) : Prop := ∀ (b : Nat) (B' : Blk), h'[b]? = some (some B') → ∃ B, h[b]? = some (some B)
theorem Sub.live {h h' : Hp} (hs : Sub h h') {M : List (Option Nat)} {g : Nat} (hl : Live M h' g) : Live M h g := by
  obtain ⟨b, B, hb, hm⟩ := hl
  obtain ⟨C, hc⟩ := hs b B hb
  exact ⟨b, C, hc, hm⟩
theorem Sub.xs {h h' : Hp} (hs : Sub h h') {A : Nat → Prop} {M : List (Option Nat)} {g : Nat} (hl : Xs A M h' g) : Xs A M h g := hl.elim .inl (fun k => .inr (hs.live k))
theorem Conv.same {h h' : Hp} (hs : Sub h h') {x : V} : Conv h h' x x := fun _ _ _ _ _ hv => hv.avoid (fun _ _ hx => hs.xs hx)
theorem Conv.any {h h' : Hp} {x : V} : Conv h h' x .any := fun _ _ _ _ _ _ => by unfold VR; trivial
theorem Convs.len {h h' : Hp} : ∀ {xs ys : List V}, Convs h h' xs ys → xs.length = ys.length
  | [], [], _ => rfl
  | _ :: _, _ :: _, k => by simp [Convs.len k.2]
  | [], _ :: _, k => k.elim
  | _ :: _, [], k => k.elim
theorem Convs.sound {h h' : Hp} {A : Nat → Prop} {M : List (Option Nat)} {w : World} (H : HR A M h w) : ∀ {xs ys : List V} {vs : List Value}, Convs h h' xs ys → VCells (Xs A M h) M w xs vs → VCells (Xs A M h') M w ys vs
  | [], [], vs, _, hv => by unfold VCells at *; exact hv
  | x :: xs, y :: ys, vs, k, hv => by
    unfold VCells at *
    obtain ⟨v, rest, e1, e2, e3⟩ := hv
    exact ⟨v, rest, e1, k.1 A M w v H e2, Convs.sound H k.2 e3⟩
  | [], _ :: _, _, k, _ => k.elim
  | _ :: _, [], _, k, _ => k.elim
theorem Convs.same {h h' : Hp} (hs : Sub h h') : ∀ {xs : List V}, Convs h h' xs xs
  | [] => trivial
  | _ :: _ => ⟨Conv.same hs, Convs.same hs⟩
theorem Convs.nil {h h' : Hp} : Convs h h' [] [] := trivial
theorem Convs.cons {h h' : Hp} {x y : V} {xs ys : List V} (a : Conv h h' x y) (k : Convs h h' xs ys) : Convs h h' (x :: xs) (y :: ys) := ⟨a, k⟩
theorem Conv.agg {h h' : Hp} {xs ys : List V} (k : Convs h h' xs ys) : Conv h h' (.agg xs) (.agg ys) := fun A M w v H hv => by
  unfold VR at *
  obtain ⟨vs, e, hc⟩ := hv
  exact ⟨vs, e, Convs.sound H k hc⟩
theorem Conv.tup {h h' : Hp} {xs ys : List V} (k : Convs h h' xs ys) : Conv h h' (.tup xs) (.tup ys) := fun A M w v H hv => by
  unfold VR at *
  obtain ⟨vs, e, hc⟩ := hv
  exact ⟨vs, e, Convs.sound H k hc⟩
/-- A value that names no local block. -/
def V.shut : V → Bool
  | .sc _ | .row _ _ _ | .eptr _ _ _ => true
  | _ => false
theorem VR.shut {X : Nat → Prop} {M : List (Option Nat)} {w : World} {x : V} {v : Value} (hx : x.shut = true) (h : VR X M w x v) : VR X [] w x v := by
  cases x <;> first | (unfold VR at *; exact h) | (simp [V.shut] at hx)
theorem all_mapE {α : Type} {p : V → Bool} {E : α → V} {l : List α} (h : ∀ x, p (E x) = true) : (l.map E).all p = true := by
  rw [List.all_eq_true]; intro y hy
  simp only [List.mem_map] at hy
  obtain ⟨x, _, rfl⟩ := hy
  exact h x
theorem one_okElem {x : V} (h : x.one = true) : x.okElem 1 = true := by
  have hc : x.cells = [x] := by cases x <;> first | rfl | simp [V.one] at h
  simp [V.okElem, V.flatOk, hc, h]
theorem VRow_cells {X : Nat → Prop} {w : World} {g : Nat} {cs : Array Value} {e : TypeId} {f : Nat × Nat} (hw : w.heap[g]? = some (.cells cs e f)) : ∀ (xs : List V) (i : Nat), (∀ c ∈ xs, c.one = true ∧ c.shut = true) → VCells X [] w xs ((cs.toList.drop i).take xs.length) → VRow X [] w 1 xs ⟨g, i, none⟩
  | [], i, _, _ => by unfold VRow; trivial
  | x :: xs, i, ho, hv => by
    unfold VCells at hv
    obtain ⟨v, rest, e1, e2, e3⟩ := hv
    have hi : i < cs.toList.length := by
      rcases Nat.lt_or_ge i cs.toList.length with hl | hl
      · exact hl
      · rw [List.drop_eq_nil_of_le hl] at e1; simp at e1
    rw [List.drop_eq_getElem_cons hi] at e1
    simp only [List.length_cons, List.take_succ_cons, List.cons.injEq] at e1
    obtain ⟨ev, er⟩ := e1
    have h1 := (ho x (by simp)).1
    have hcell : v.cells = #[v] := cells_of_oneCell (e2.oneCell h1)
    unfold VRow
    refine ⟨⟨v, e2, by rw [hcell]; rfl, ?_⟩, ?_⟩
    · rw [hcell]
      intro j u hu
      have hj : j = 0 := by have := (Array.getElem?_eq_some_iff.1 hu).1; simp at this; exact this
      subst hj
      simp at hu
      subst hu
      simp only [Addr.add, if_true]
      unfold World.cell?
      rw [hw]
      subst ev
      simp at hi
      simp [hi]
    · have : (⟨g, i, none⟩ : Addr).add 1 = ⟨g, i + 1, none⟩ := by simp [Addr.add]
      rw [this]
      exact VRow_cells hw xs (i + 1) (fun c hc => ho c (by simp [hc])) (by rw [er]; exact e3)
theorem Conv.row {h h' : Hp} (hs : Sub h h') {b n : Nat} {e : TypeId} {cs : List V} {ag : Bool} (hb : h[b]? = some (some ⟨e, cs⟩)) (hb' : h'[b]? = some none) (hsh : cs.all V.shut = true) (hn : n = cs.length) : Conv h h' (.sl b 0 n 1 ag) (.row none 1 cs) := by
  intro A M w v H hv
  obtain ⟨hone, hcase⟩ := H.blk b _ hb
  unfold VR at hv ⊢
  rcases hv with ⟨hm, rfl, h0, _⟩ | ⟨g, cap, e', sz, hm, rfl, h1, _, h3, hshp, _⟩
  · have : cs = [] := List.eq_nil_of_length_eq_zero (by omega)
    subst this
    exact ⟨none, 0, rfl, Nat.le_refl _, fun _ => rfl, (fun b hb => by cases hb), by simp, fun hne => absurd rfl hne⟩
  · rcases hcase with ⟨hm', _⟩ | ⟨g', arr, hm', hA, hw, hle, hcs⟩
    · rw [hm] at hm'; cases hm'
    · rw [hm] at hm'
      injection hm' with hm'
      injection hm' with hm'
      subst hm'
      obtain ⟨f, _, hw⟩ := hw.inCells hshp
      refine ⟨some ⟨g, 0, none⟩, cap, by rw [hn], by omega, fun hh => (by cases hh), (fun b hb => by cases hb), fun c hc => one_okElem (hone c hc), fun _ => ⟨⟨g, 0, none⟩, rfl, h3, ?_, rfl, ?_⟩⟩
      · rintro (ha | ⟨c, C, hc, hmc⟩)
        · exact hA ha
        · obtain ⟨C', hc'⟩ := hs c C hc
          have := H.inj c b C' _ g hc' hb hmc hm
          subst this
          rw [hb'] at hc; cases hc
      · refine VRow_cells hw cs 0 (fun c hc => ⟨hone c hc, List.all_eq_true.1 hsh c hc⟩) ?_
        rw [List.drop_zero]
        refine VCells.mk (by rw [List.length_take]; simp only [Array.length_toList]; dsimp only at hle; omega) (fun i c u hc hu => ?_)
        obtain ⟨u', hu', hr⟩ := hcs.get hc
        dsimp only at hu'
        rw [hu] at hu'
        injection hu' with hu'
        subst hu'
        exact (hr.shut (List.all_eq_true.1 hsh c (List.mem_of_getElem? hc))).avoid (fun _ _ hx => hs.xs hx)
def FCv (h h' : Hp) (fr : List (Nat × V)) : List (Nat × V) → Prop
  | [] => True
  | (t, y) :: r => (∃ x, look fr t = some x ∧ Conv h h' x y) ∧ FCv h h' fr r
theorem FCv.nil {h h' : Hp} {fr : List (Nat × V)} : FCv h h' fr [] := trivial
theorem FCv.cons {h h' : Hp} {fr r : List (Nat × V)} {t : Nat} {x y : V} (hl : look fr t = some x) (hc : Conv h h' x y) (k : FCv h h' fr r) : FCv h h' fr ((t, y) :: r) := ⟨⟨x, hl, hc⟩, k⟩
theorem FCv.get {h h' : Hp} {fr : List (Nat × V)} : ∀ {fr' : List (Nat × V)}, FCv h h' fr fr' → ∀ {t : Nat} {y : V}, look fr' t = some y → ∃ x, look fr t = some x ∧ Conv h h' x y
  | [], _, t, y, hy => by cases hy
  | (u, z) :: r, k, t, y, hy => by
    simp only [look] at hy
    cases hb : Nat.beq u t with
    | true =>
      rw [hb] at hy
      have := Nat.eq_of_beq_eq_true hb
      subst this
      simp only [cond_true, Option.some.injEq] at hy
      subst hy
      exact k.1
    | false => rw [hb] at hy; exact k.2.get hy
/-- The heaps, block by block (H, H': the whole heaps). -/
def HCv (H H' : Hp) : Hp → Hp → Prop
  | [], [] => True
  | _ :: h, none :: h' => HCv H H' h h'
  | some B :: h, some B' :: h' => (B.e = B'.e ∧ Convs H H' B.cells B'.cells ∧ B'.cells.all V.one = true) ∧ HCv H H' h h'
  | _, _ => False
theorem HCv.get {H H' : Hp} : ∀ {h h' : Hp}, HCv H H' h h' → ∀ {j : Nat} {B' : Blk}, h'[j]? = some (some B') → ∃ B, h[j]? = some (some B) ∧ B.e = B'.e ∧ Convs H H' B.cells B'.cells ∧ B'.cells.all V.one = true
  | [], [], _, j, B', hj => by simp at hj
  | _ :: h, none :: h', hh, j, B', hj => by
    cases j with
    | zero => simp at hj
    | succ j => simp only [List.getElem?_cons_succ] at hj ⊢; exact HCv.get (h := h) hh hj
  | some B :: h, some C :: h', hh, j, B', hj => by
    cases j with
    | zero =>
      simp only [List.getElem?_cons_zero, Option.some.injEq] at hj
      subst hj
      exact ⟨B, rfl, hh.1.1, hh.1.2.1, hh.1.2.2⟩
    | succ j => simp only [List.getElem?_cons_succ] at hj ⊢; exact HCv.get (h := h) hh.2 hj
  | [], _ :: _, hh, _, _, _ => hh.elim
  | _ :: _, [], hh, _, _, _ => by unfold HCv at hh; exact hh.elim
  | none :: _, some _ :: _, hh, _, _, _ => hh.elim
theorem HCv.len {H H' : Hp} : ∀ {h h' : Hp}, HCv H H' h h' → h.length = h'.length
  | [], [], _ => rfl
  | _ :: h, none :: h', hh => by simp [HCv.len (h := h) hh]
  | some B :: h, some C :: h', hh => by simp [HCv.len (h := h) hh.2]
  | [], _ :: _, hh => hh.elim
  | _ :: _, [], hh => by unfold HCv at hh; exact hh.elim
  | none :: _, some _ :: _, hh => hh.elim
theorem HCv.nil {H H' : Hp} : HCv H H' [] [] := trivial
theorem HCv.dead {H H' h h' : Hp} {o : Option Blk} (k : HCv H H' h h') : HCv H H' (o :: h) (none :: h') := by cases o <;> exact k
theorem HCv.live {H H' h h' : Hp} {e : TypeId} {cs cs' : List V} (hc : Convs H H' cs cs') (ho : cs'.all V.one = true) (k : HCv H H' h h') : HCv H H' (some ⟨e, cs⟩ :: h) (some ⟨e, cs'⟩ :: h') := ⟨⟨rfl, hc, ho⟩, k⟩
theorem Ghost.conv {N n : Nat} {fr fr' : List (Nat × V)} {h h' : Hp} (hf : FCv h h' fr fr') (hh : HCv h h' h h') : Ghost N (mkF n fr) h (mkF n fr') h' := by
  intro A M a w hN R
  have hs : Sub h h' := fun b B' hb => by obtain ⟨B, hB, _⟩ := hh.get hb; exact ⟨B, hB⟩
  refine ⟨M, rfl, ⟨⟨by rw [← hh.len]; exact R.hr.len, R.hr.alt, ?_, ?_, R.hr.glob.avoid fun g _ hx => hx.elim .inl (fun hl => .inr (hs.live hl))⟩, ?_, R.defers⟩, fun g hl => hs.live hl⟩
  · intro b B' hb
    obtain ⟨B, hB, he, hc, ho⟩ := hh.get hb
    refine ⟨List.all_eq_true.1 ho, ?_⟩
    have hl := hc.len
    rcases (R.hr.blk b B hB).2 with ⟨hn, hc0⟩ | ⟨g, cs, hg, hA, hw, hle, hcs⟩
    · exact .inl ⟨hn, List.eq_nil_of_length_eq_zero (by rw [← hl, hc0]; rfl)⟩
    · refine .inr ⟨g, cs, hg, hA, by rw [← he, ← hl]; exact hw, by rw [← hl]; exact hle, ?_⟩
      rw [← hl]
      exact Convs.sound R.hr hc hcs
  · intro b b' B B' g hb hb' hm hm'
    obtain ⟨C, hC, _⟩ := hh.get hb
    obtain ⟨C', hC', _⟩ := hh.get hb'
    exact R.hr.inj b b' C C' g hC hC' hm hm'
  · exact mkF_val R.sr (fun t y hy => by
      obtain ⟨x, hx, hl⟩ := hf.get hy
      exact ⟨x, hx, fun v hv => hl A M w v R.hr hv⟩)
/-- Which blocks are there, by the names alone. -/
def subB : Hp → Hp → Bool
  | _, [] => true
  | some _ :: h, some _ :: h' => subB h h'
  | _ :: h, none :: h' => subB h h'
  | _, _ => false
theorem subB_sub : ∀ {h h' : Hp}, subB h h' = true → Sub h h'
  | h, [], _, b, B', hb => by simp at hb
  | some B :: h, some C :: h', k, b, B', hb => by
    cases b with
    | zero => exact ⟨B, rfl⟩
    | succ b => simp only [List.getElem?_cons_succ] at hb ⊢; exact subB_sub (h := h) k b B' hb
  | o :: h, none :: h', k, b, B', hb => by
    cases b with
    | zero => simp at hb
    | succ b =>
      simp only [List.getElem?_cons_succ] at hb ⊢
      refine subB_sub (h := h) (h' := h') ?_ b B' hb
      cases o <;> exact k
  | none :: _, some _ :: _, k, _, _, _ => by cases k
  | [], o :: _, k, _, _, _ => by cases o <;> cases k
end Go.Vm
