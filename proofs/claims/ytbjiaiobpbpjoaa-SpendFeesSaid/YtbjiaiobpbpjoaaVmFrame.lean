import Derived.Test.YtbjiaiobpbpjoaaVmOne
set_option linter.unusedSimpArgs false
set_option linter.unusedVariables false
namespace Go.Vm
open Go

/-! ### Names are renamed -/
mutual
def V.rn (f : Nat → Nat) : V → V
  | .ptr b off => .ptr (f b) off
  | .sl b off n k ag => .sl (f b) off n k ag
  | .mp b => .mp (f b)
  | .agg cs => .agg (V.rns f cs)
  | .tup cs => .tup (V.rns f cs)
  | .sc v => .sc v
  | .row nil k es => .row nil k es
  | .eptr es i off => .eptr es i off
  | .any => .any
def V.rns (f : Nat → Nat) : List V → List V
  | [] => []
  | c :: cs => c.rn f :: V.rns f cs
end
theorem V.rns_length (f : Nat → Nat) : ∀ cs : List V, (V.rns f cs).length = cs.length
  | [] => rfl
  | _ :: cs => by simp [V.rns, V.rns_length f cs]
theorem V.rns_mem {f : Nat → Nat} {p : V → Bool} (hp : ∀ c, p c = true → p (c.rn f) = true) : ∀ {cs : List V}, (∀ c ∈ cs, p c = true) → ∀ c ∈ V.rns f cs, p c = true
  | [], _, c, hc => by simp [V.rns] at hc
  | d :: cs, h, c, hc => by
    simp only [V.rns, List.mem_cons] at hc
    rcases hc with rfl | hc
    · exact hp d (h d (by simp))
    · exact V.rns_mem hp (fun c hc => h c (by simp [hc])) c hc
theorem V.rn_one (f : Nat → Nat) (c : V) (h : c.one = true) : (c.rn f).one = true := by
  cases c <;> first | exact h | rfl | (simp [V.one] at h)
theorem V.one_rn (f : Nat → Nat) (c : V) (h : (c.rn f).one = true) : c.one = true := by
  cases c <;> first | exact h | rfl | (simp [V.one, V.rn] at h)
theorem V.one_rns {f : Nat → Nat} : ∀ {cs : List V}, (∀ c ∈ V.rns f cs, c.one = true) → ∀ c ∈ cs, c.one = true
  | [], _, c, hc => by simp at hc
  | d :: cs, h, c, hc => by
    simp only [V.rns, List.mem_cons, forall_eq_or_imp] at h
    simp only [List.mem_cons] at hc
    rcases hc with rfl | hc
    · exact V.one_rn f _ h.1
    · exact V.one_rns h.2 c hc

section
variable {X : Nat → Prop} {M M' : List (Option Nat)} {w : World} {f : Nat → Nat}
mutual
theorem VR.rn_to (hM : ∀ b y, M[b]? = some y → M'[f b]? = some y) : ∀ (x : V) (v : Value), VR X M w x v → VR X M' w (x.rn f) v
  | .sc c, v, h => by unfold V.rn; unfold VR at h ⊢; exact h
  | .any, v, h => by unfold V.rn; unfold VR; trivial
  | .row nil k es, v, h => by unfold V.rn; unfold VR at h ⊢; exact h
  | .eptr es i off, v, h => by unfold V.rn; unfold VR at h ⊢; exact h
  | .ptr b off, v, h => by
    unfold V.rn; unfold VR at h ⊢
    obtain ⟨g, sh, h1, h2⟩ := h
    exact ⟨g, sh, hM _ _ h1, h2⟩
  | .mp b, v, h => by
    unfold V.rn; unfold VR at h ⊢
    obtain ⟨g, h1, h2⟩ := h
    exact ⟨g, hM _ _ h1, h2⟩
  | .sl b off n k ag, v, h => by
    unfold V.rn; unfold VR at h ⊢
    rcases h with ⟨h1, h2⟩ | ⟨g, cap, e, sz, h1, h2⟩
    · exact .inl ⟨hM _ _ h1, h2⟩
    · exact .inr ⟨g, cap, e, sz, hM _ _ h1, h2⟩
  | .agg cs, v, h => by
    unfold V.rn; unfold VR at h ⊢
    obtain ⟨vs, h1, h2⟩ := h
    exact ⟨vs, h1, VCells.rn_to hM cs vs h2⟩
  | .tup cs, v, h => by
    unfold V.rn; unfold VR at h ⊢
    obtain ⟨vs, h1, h2⟩ := h
    exact ⟨vs, h1, VCells.rn_to hM cs vs h2⟩
theorem VCells.rn_to (hM : ∀ b y, M[b]? = some y → M'[f b]? = some y) : ∀ (cs : List V) (vs : List Value), VCells X M w cs vs → VCells X M' w (V.rns f cs) vs
  | [], vs, h => by unfold V.rns; unfold VCells at h ⊢; exact h
  | c :: cs, vs, h => by
    unfold V.rns; unfold VCells at h ⊢
    obtain ⟨v, rest, h1, h2, h3⟩ := h
    exact ⟨v, rest, h1, VR.rn_to hM c v h2, VCells.rn_to hM cs rest h3⟩
end
mutual
theorem VR.rn_from (hM : ∀ b y, M'[f b]? = some y → M[b]? = some y) : ∀ (x : V) (v : Value), VR X M' w (x.rn f) v → VR X M w x v
  | .sc c, v, h => by unfold V.rn at h; unfold VR at h ⊢; exact h
  | .any, v, h => by unfold VR; trivial
  | .row nil k es, v, h => by unfold V.rn at h; unfold VR at h ⊢; exact h
  | .eptr es i off, v, h => by unfold V.rn at h; unfold VR at h ⊢; exact h
  | .ptr b off, v, h => by
    unfold V.rn at h; unfold VR at h ⊢
    obtain ⟨g, sh, h1, h2⟩ := h
    exact ⟨g, sh, hM _ _ h1, h2⟩
  | .mp b, v, h => by
    unfold V.rn at h; unfold VR at h ⊢
    obtain ⟨g, h1, h2⟩ := h
    exact ⟨g, hM _ _ h1, h2⟩
  | .sl b off n k ag, v, h => by
    unfold V.rn at h; unfold VR at h ⊢
    rcases h with ⟨h1, h2⟩ | ⟨g, cap, e, sz, h1, h2⟩
    · exact .inl ⟨hM _ _ h1, h2⟩
    · exact .inr ⟨g, cap, e, sz, hM _ _ h1, h2⟩
  | .agg cs, v, h => by
    unfold V.rn at h; unfold VR at h ⊢
    obtain ⟨vs, h1, h2⟩ := h
    exact ⟨vs, h1, VCells.rn_from hM cs vs h2⟩
  | .tup cs, v, h => by
    unfold V.rn at h; unfold VR at h ⊢
    obtain ⟨vs, h1, h2⟩ := h
    exact ⟨vs, h1, VCells.rn_from hM cs vs h2⟩
theorem VCells.rn_from (hM : ∀ b y, M'[f b]? = some y → M[b]? = some y) : ∀ (cs : List V) (vs : List Value), VCells X M' w (V.rns f cs) vs → VCells X M w cs vs
  | [], vs, h => by unfold V.rns at h; unfold VCells at h ⊢; exact h
  | c :: cs, vs, h => by
    unfold V.rns at h; unfold VCells at h ⊢
    obtain ⟨v, rest, h1, h2, h3⟩ := h
    exact ⟨v, rest, h1, VR.rn_from hM c v h2, VCells.rn_from hM cs rest h3⟩
end
end

/-! ### A contract in a greater heap -/
def Blk.rn (f : Nat → Nat) (B : Blk) : Blk := ⟨B.e, V.rns f B.cells⟩
def rnH (f : Nat → Nat) (h : Hp) : Hp := h.map (Option.map (Blk.rn f))
/-- The name in the greater heap. -/
def sg (ρ : List Nat) (L : Nat) (i : Nat) : Nat := match ρ[i]? with
  | some b => b
  | none => L + (i - ρ.length)
def lendSet : Hp → List Nat → Hp → Hp
  | h, b :: ρ, o :: os => lendSet (h.set b o) ρ os
  | h, _, _ => h
theorem lendSet_length : ∀ (h : Hp) (ρ : List Nat) (o : Hp), (lendSet h ρ o).length = h.length
  | h, b :: ρ, x :: o => by rw [lendSet, lendSet_length]; simp
  | h, [], _ => by simp [lendSet]
  | h, _ :: _, [] => by simp [lendSet]
theorem lendSet_out : ∀ {h : Hp} {ρ : List Nat} {o : Hp} {b : Nat}, b ∉ ρ → (lendSet h ρ o)[b]? = h[b]?
  | h, c :: ρ, x :: o, b, hb => by
    simp only [List.mem_cons, not_or] at hb
    rw [lendSet, lendSet_out hb.2, List.getElem?_set_ne (fun e => hb.1 e.symm)]
  | h, [], _, b, _ => by simp [lendSet]
  | h, _ :: _, [], b, _ => by simp [lendSet]
theorem lendSet_in : ∀ {h : Hp} {ρ : List Nat} {o : Hp} {i b : Nat}, ρ.Nodup → (∀ b ∈ ρ, b < h.length) → ρ.length ≤ o.length → ρ[i]? = some b → (lendSet h ρ o)[b]? = o[i]?
  | h, c :: ρ, x :: o, 0, b, hn, hl, _, hi => by
    simp only [List.getElem?_cons_zero, Option.some.injEq] at hi
    subst hi
    have hc : c < h.length := hl c (by simp)
    rw [lendSet, lendSet_out (List.nodup_cons.1 hn).1]
    simp [hc]
  | h, c :: ρ, x :: o, i + 1, b, hn, hl, hle, hi => by
    simp only [List.getElem?_cons_succ] at hi
    rw [lendSet, lendSet_in (List.nodup_cons.1 hn).2 (fun b hb => by simpa using hl b (by simp [hb])) (by simpa using hle) hi]
    simp
  | h, [], _, i, b, _, _, _, hi => by simp at hi
  | h, _ :: _, [], i, b, _, _, hle, _ => by simp at hle

theorem rnH_get {f : Nat → Nat} {h : Hp} {i : Nat} : (rnH f h)[i]? = (h[i]?).map (Option.map (Blk.rn f)) := by simp [rnH]
theorem rnH_some {f : Nat → Nat} {h : Hp} {i : Nat} {B : Blk} (hb : (rnH f h)[i]? = some (some B)) : ∃ C, h[i]? = some (some C) ∧ B = C.rn f := by
  rw [rnH_get] at hb
  cases hi : h[i]? with
  | none => rw [hi] at hb; cases hb
  | some o =>
    rw [hi] at hb
    cases o with
    | none => simp at hb
    | some C => simp at hb; exact ⟨C, rfl, hb.symm⟩
/-- The greater heap behind the call. -/
def lent (hb : Hp) (ρ : List Nat) (hs' : Hp) : Hp := lendSet hb ρ (rnH (sg ρ hb.length) hs') ++ (rnH (sg ρ hb.length) hs').drop ρ.length

theorem Fn.frame {P : Program} {f : FuncId} {hs hs' hb : Hp} {args : List V} {r : V} (hc : Fn P f hs args r hs') (ρ : List Nat) (hlen : ρ.length = hs.length) (hnd : ρ.Nodup) (hlt : ∀ b ∈ ρ, b < hb.length)
    (hlend : ∀ i b : Nat, ρ[i]? = some b → hb[b]? = (rnH (sg ρ hb.length) hs)[i]?) : Fn P f hb (V.rns (sg ρ hb.length) args) (r.rn (sg ρ hb.length)) (lent hb ρ hs') := by
  intro A M w vs H hargs
  have hσ : ∀ i b : Nat, ρ[i]? = some b → sg ρ hb.length i = b := fun i b hi => by simp [sg, hi]
  have hσ' : ∀ i, ρ.length ≤ i → sg ρ hb.length i = hb.length + (i - ρ.length) := fun i hi => by simp [sg, hi]
  generalize hsg : sg ρ hb.length = σ at *
  -- the small map
  let Ms : List (Option Nat) := ρ.map fun b => (M[b]?).getD none
  have hMs : ∀ i b : Nat, ρ[i]? = some b → Ms[i]? = M[b]? := by
    intro i b hi
    have hb' : b < M.length := by rw [H.len]; exact hlt b (List.mem_of_getElem? hi)
    simp only [Ms, List.getElem?_map, hi, Option.map_some]
    rw [List.getElem?_eq_getElem hb']
    rfl
  have hMslen : Ms.length = hs.length := by simp [Ms, hlen]
  have hfrom : ∀ b y, M[σ b]? = some y → Ms[b]? = some y := by
    intro b y hy
    rcases Nat.lt_or_ge b ρ.length with hl | hl
    · have hi : ρ[b]? = some ρ[b] := List.getElem?_eq_getElem hl
      rw [hMs b _ hi, ← hσ b _ hi]; exact hy
    · rw [hσ' b hl] at hy
      have := (List.getElem?_eq_some_iff.1 hy).1
      rw [H.len] at this; omega
  -- who lives
  let A' : Nat → Prop := fun g => A g ∨ ∃ b B, b ∉ ρ ∧ hb[b]? = some (some B) ∧ M[b]? = some (some g)
  have hin : ∀ {i : Nat} {B : Blk}, hs[i]? = some (some B) → ∃ b, ρ[i]? = some b ∧ hb[b]? = some (some (B.rn σ)) ∧ Ms[i]? = M[b]? := by
    intro i B hi
    have hl : i < ρ.length := by rw [hlen]; exact (List.getElem?_eq_some_iff.1 hi).1
    have hr : ρ[i]? = some ρ[i] := List.getElem?_eq_getElem hl
    refine ⟨_, hr, ?_, hMs i _ hr⟩
    rw [hlend i _ hr, rnH_get, hi]; rfl
  have hliveS : ∀ g, Live Ms hs g → Live M hb g := by
    rintro g ⟨i, B, hi, hm⟩
    obtain ⟨b, _, hb1, hb2⟩ := hin hi
    exact ⟨b, _, hb1, by rw [← hb2]; exact hm⟩
  have hX1 : ∀ g, Xs A' Ms hs g → Xs A M hb g := by
    rintro g ((ha | ⟨b, B, _, hb1, hb2⟩) | hl)
    · exact .inl ha
    · exact .inr ⟨b, B, hb1, hb2⟩
    · exact .inr (hliveS g hl)
  have hX2 : ∀ g, Xs A M hb g → Xs A' Ms hs g := by
    rintro g (ha | ⟨b, B, hb1, hb2⟩)
    · exact .inl (.inl ha)
    · by_cases hm : b ∈ ρ
      · obtain ⟨i, hi⟩ := List.mem_iff_getElem?.1 hm
        have he := hlend i b hi
        rw [hb1] at he
        obtain ⟨C, hC, _⟩ := rnH_some he.symm
        exact .inr ⟨i, C, hC, by rw [hMs i b hi]; exact hb2⟩
      · exact .inl (.inr ⟨b, B, hm, hb1, hb2⟩)
  have hout : ∀ {b : Nat} {B : Blk} {g : Nat}, b ∉ ρ → hb[b]? = some (some B) → M[b]? = some (some g) → ¬ Live Ms hs g := by
    rintro b B g hb0 hb1 hb2 ⟨i, C, hi, hm⟩
    obtain ⟨c, hc0, hc1, hc2⟩ := hin hi
    have := H.inj b c B _ g hb1 hc1 hb2 (by rw [← hc2]; exact hm)
    subst this
    exact hb0 (List.mem_of_getElem? hc0)
  have HS : HR A' Ms hs w := by
    refine ⟨hMslen, ?_, ?_, ?_, H.glob.avoid fun g _ hx => hX1 g hx⟩
    · rintro g (ha | ⟨b, B, _, hb1, hb2⟩)
      · exact H.alt g ha
      · exact H.lt (.inr ⟨b, B, hb1, hb2⟩)
    · intro i B hi
      obtain ⟨b, hb0, hb1, hb2⟩ := hin hi
      obtain ⟨h1, h2⟩ := H.blk b _ hb1
      refine ⟨V.one_rns h1, ?_⟩
      rcases h2 with ⟨hn, hc0⟩ | ⟨g, cs, hg, hA, hh, hle, hcs⟩
      · refine .inl ⟨by rw [hb2]; exact hn, ?_⟩
        have := congrArg List.length hc0
        simp only [Blk.rn, V.rns_length, List.length_nil] at this
        exact List.eq_nil_of_length_eq_zero this
      · refine .inr ⟨g, cs, by rw [hb2]; exact hg, ?_, by simpa [Blk.rn, V.rns_length] using hh, ?_, ?_⟩
        · rintro (ha | ⟨c, C, hc0, hc1, hc2⟩)
          · exact hA ha
          · have := H.inj b c _ C g hb1 hc1 hg hc2
            subst this
            exact hc0 (List.mem_of_getElem? hb0)
        · simpa [Blk.rn, V.rns_length] using hle
        · have hcs' : VCells (Xs A M hb) M w (V.rns σ B.cells) (cs.toList.take B.cells.length) := by simpa [Blk.rn, V.rns_length] using hcs
          exact (VCells.rn_from hfrom _ _ hcs').avoid (fun g _ hx => hX1 g hx)
    · intro i j B C g hi hj mi mj
      obtain ⟨b, hb0, hb1, hb2⟩ := hin hi
      obtain ⟨c, hc0, hc1, hc2⟩ := hin hj
      have := H.inj b c _ _ g hb1 hc1 (by rw [← hb2]; exact mi) (by rw [← hc2]; exact mj)
      subst this
      have hil := (List.getElem?_eq_some_iff.1 hb0).1
      exact (List.getElem?_inj hil hnd).1 (hb0.trans hc0.symm)
  have hargsS : VCells (Xs A' Ms hs) Ms w args vs := (VCells.rn_from hfrom _ _ hargs).avoid (fun g _ hx => hX1 g hx)
  refine (hc A' Ms w vs HS hargsS).mono fun v w' ⟨Ms', G, hv⟩ => ?_
  obtain ⟨Mn, rfl⟩ := G.pre
  have hMnlen : hs'.length = ρ.length + Mn.length := by rw [← G.hr.len]; simp [Ms]
  have hto : ∀ b y, (Ms ++ Mn)[b]? = some y → (M ++ Mn)[σ b]? = some y := by
    intro b y hy
    rcases Nat.lt_or_ge b ρ.length with hl | hl
    · have hi : ρ[b]? = some ρ[b] := List.getElem?_eq_getElem hl
      rw [List.getElem?_append_left (by rw [hMslen, ← hlen]; exact hl), hMs b _ hi] at hy
      rw [hσ b _ hi, List.getElem?_append_left (by rw [H.len]; exact hlt _ (List.mem_of_getElem? hi))]
      exact hy
    · rw [List.getElem?_append_right (by rw [hMslen, ← hlen]; exact hl), hMslen, ← hlen] at hy
      rw [hσ' b hl, List.getElem?_append_right (by rw [H.len]; omega), H.len, show hb.length + (b - ρ.length) - hb.length = b - ρ.length by omega]
      exact hy
  have hlentlen : (lendSet hb ρ (rnH σ hs')).length = hb.length := lendSet_length _ _ _
  have hrnlen : (rnH σ hs').length = hs'.length := by simp [rnH]
  -- the names of the greater heap behind the call
  have hcase : ∀ {b : Nat} {B : Blk}, (lent hb ρ hs')[b]? = some (some B) → (b ∉ ρ ∧ hb[b]? = some (some B)) ∨ ∃ i C, hs'[i]? = some (some C) ∧ b = σ i ∧ B = C.rn σ ∧ (M ++ Mn)[b]? = (Ms ++ Mn)[i]? := by
    intro b B hb1
    unfold lent at hb1
    rw [hsg] at hb1
    rcases Nat.lt_or_ge b hb.length with hl | hl
    · rw [List.getElem?_append_left (by rw [hlentlen]; exact hl)] at hb1
      by_cases hm : b ∈ ρ
      · obtain ⟨i, hi⟩ := List.mem_iff_getElem?.1 hm
        rw [lendSet_in hnd hlt (by rw [hrnlen]; omega) hi] at hb1
        obtain ⟨C, hC, hB⟩ := rnH_some hb1
        have hil := (List.getElem?_eq_some_iff.1 hi).1
        refine .inr ⟨i, C, hC, (hσ i b hi).symm, hB, ?_⟩
        rw [List.getElem?_append_left (by rw [H.len]; exact hl), List.getElem?_append_left (by rw [hMslen, ← hlen]; exact hil), hMs i b hi]
      · rw [lendSet_out hm] at hb1
        exact .inl ⟨hm, hb1⟩
    · rw [List.getElem?_append_right (by rw [hlentlen]; exact hl), hlentlen, List.getElem?_drop] at hb1
      obtain ⟨C, hC, hB⟩ := rnH_some hb1
      refine .inr ⟨_, C, hC, ?_, hB, ?_⟩
      · rw [hσ' _ (by omega)]; omega
      · rw [List.getElem?_append_right (by rw [H.len]; exact hl), List.getElem?_append_right (by rw [hMslen, ← hlen]; omega), H.len, hMslen, ← hlen]
        congr 1; omega
  have hlive : ∀ g, g < w.heap.size → Live (M ++ Mn) (lent hb ρ hs') g → Live M hb g := by
    rintro g hg ⟨b, B, hb1, hb2⟩
    rcases hcase hb1 with ⟨hb0, hb3⟩ | ⟨i, C, hC, rfl, rfl, he⟩
    · refine ⟨b, B, hb3, ?_⟩
      rw [List.getElem?_append_left (by rw [H.len]; exact (List.getElem?_eq_some_iff.1 hb3).1)] at hb2
      exact hb2
    · exact hliveS g (G.live g hg ⟨i, C, hC, by rw [← he]; exact hb2⟩)
  have hX3 : ∀ g, Xs A (M ++ Mn) (lent hb ρ hs') g → Xs A' (Ms ++ Mn) hs' g := by
    rintro g (ha | ⟨b, B, hb1, hb2⟩)
    · exact .inl (.inl ha)
    · rcases hcase hb1 with ⟨hb0, hb3⟩ | ⟨i, C, hC, rfl, rfl, he⟩
      · rw [List.getElem?_append_left (by rw [H.len]; exact (List.getElem?_eq_some_iff.1 hb3).1)] at hb2
        exact .inl (.inr ⟨b, B, hb0, hb3, hb2⟩)
      · exact .inr ⟨i, C, hC, by rw [← he]; exact hb2⟩
  refine ⟨M ++ Mn, ⟨⟨Mn, rfl⟩, ⟨?_, ?_, ?_, ?_, G.hr.glob.avoid fun g _ hx => hX3 g hx⟩, G.ext.mono (fun g _ hl => hliveS g hl), hlive⟩, (VR.rn_to hto _ _ hv).avoid (fun g _ hx => hX3 g hx)⟩
  · unfold lent
    rw [hsg]
    simp only [List.length_append, List.length_drop, hlentlen, hrnlen, H.len]
    omega
  · exact fun g hg => Nat.lt_of_lt_of_le (H.alt g hg) G.ext.size
  · intro b B hb1
    rcases hcase hb1 with ⟨hb0, hb3⟩ | ⟨i, C, hC, rfl, rfl, he⟩
    · have hbl : b < M.length := by rw [H.len]; exact (List.getElem?_eq_some_iff.1 hb3).1
      obtain ⟨h1, ⟨hn, hc0⟩ | ⟨g, cs, hg, hA, hh, hle, hcs⟩⟩ := H.blk b B hb3
      · exact ⟨h1, .inl ⟨by rw [List.getElem?_append_left hbl]; exact hn, hc0⟩⟩
      · have hgs : g < w.heap.size := H.lt (.inr ⟨b, B, hb3, hg⟩)
        refine ⟨h1, .inr ⟨g, cs, by rw [List.getElem?_append_left hbl]; exact hg, hA, ?_, hle, ?_⟩⟩
        · exact hh.to (G.ext.block g hgs (hout hb0 hb3 hg))
        · exact VCells.ext G.ext ⟨Mn, rfl⟩ (fun g _ hl => .inr (hliveS g hl)) (fun g hg hx => hx.elim .inl (fun hl => .inr (hlive g hg hl))) _ _ hcs
    · obtain ⟨h1, h2⟩ := G.hr.blk i C hC
      refine ⟨V.rns_mem (V.rn_one σ) h1, ?_⟩
      rcases h2 with ⟨hn, hc0⟩ | ⟨g, cs, hg, hA, hh, hle, hcs⟩
      · refine .inl ⟨by rw [he]; exact hn, ?_⟩
        simp [Blk.rn, hc0, V.rns]
      · refine .inr ⟨g, cs, by rw [he]; exact hg, fun ha => hA (.inl ha), by simpa [Blk.rn, V.rns_length] using hh, ?_, ?_⟩
        · simpa [Blk.rn, V.rns_length] using hle
        · have := (VCells.rn_to hto _ _ hcs).avoid (fun g _ hx => hX3 g hx)
          simpa [Blk.rn, V.rns_length] using this
  · intro b c B C g hb1 hc1 mb mc
    rcases hcase hb1 with ⟨hb0, hb3⟩ | ⟨i, D, hD, rfl, rfl, he⟩ <;> rcases hcase hc1 with ⟨hc0, hc3⟩ | ⟨j, E, hE, rfl, rfl, he'⟩
    · rw [List.getElem?_append_left (by rw [H.len]; exact (List.getElem?_eq_some_iff.1 hb3).1)] at mb
      rw [List.getElem?_append_left (by rw [H.len]; exact (List.getElem?_eq_some_iff.1 hc3).1)] at mc
      exact H.inj b c B C g hb3 hc3 mb mc
    · rw [List.getElem?_append_left (by rw [H.len]; exact (List.getElem?_eq_some_iff.1 hb3).1)] at mb
      rw [he'] at mc
      obtain ⟨_, ⟨hn, _⟩ | ⟨g', cs, hg, hA, _⟩⟩ := G.hr.blk j E hE
      · rw [mc] at hn; cases hn
      · rw [mc] at hg; injection hg with hg; injection hg with hg; subst hg
        exact absurd (.inr ⟨b, B, hb0, hb3, mb⟩) hA
    · rw [List.getElem?_append_left (by rw [H.len]; exact (List.getElem?_eq_some_iff.1 hc3).1)] at mc
      rw [he] at mb
      obtain ⟨_, ⟨hn, _⟩ | ⟨g', cs, hg, hA, _⟩⟩ := G.hr.blk i D hD
      · rw [mb] at hn; cases hn
      · rw [mb] at hg; injection hg with hg; injection hg with hg; subst hg
        exact absurd (.inr ⟨c, C, hc0, hc3, mc⟩) hA
    · rw [G.hr.inj i j D E g hD hE (by rw [← he]; exact mb) (by rw [← he']; exact mc)]
end Go.Vm
