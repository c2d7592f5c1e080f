import Derived.Test.YtbjiaiobpbpjoaaVmCtr
set_option linter.unusedSimpArgs false
set_option linter.unusedVariables false
namespace Go.Vm
open Go

/-! ### Values that lead to no row -/
mutual
def V.rf : V → Bool
  | .sc _ => true
  | .row _ _ es => es.isEmpty
  | .ptr _ _ => true
  | .mp _ => true
  | .sl _ _ _ _ _ => true
  | .agg cs => V.rfs cs
  | .tup cs => V.rfs cs
  | .eptr _ _ _ => false
  | .any => true
def V.rfs : List V → Bool
  | [] => true
  | c :: cs => c.rf && V.rfs cs
end
section
variable {X X' : Nat → Prop} {M : List (Option Nat)} {w : World}
mutual
theorem VR.rf : ∀ (x : V) (v : Value), x.rf = true → VR X M w x v → VR X' M w x v
  | .sc _, v, _, h => by unfold VR at h ⊢; exact h
  | .any, v, _, _ => by unfold VR; trivial
  | .row nil k es, v, hr, h => by
    unfold V.rf at hr
    have : es = [] := by simpa using hr
    subst this
    unfold VR at h ⊢
    obtain ⟨a, cap, h1, h2, h3, h4, h5, h6⟩ := h
    exact ⟨a, cap, h1, h2, h3, h4, h5, fun hne => absurd rfl hne⟩
  | .ptr _ _, v, _, h => by unfold VR at h ⊢; exact h
  | .mp _, v, _, h => by unfold VR at h ⊢; exact h
  | .sl _ _ _ _ _, v, _, h => by unfold VR at h ⊢; exact h
  | .agg cs, v, hr, h => by
    unfold V.rf at hr
    unfold VR at h ⊢
    obtain ⟨vs, h1, h2⟩ := h
    exact ⟨vs, h1, VCells.rf cs vs hr h2⟩
  | .tup cs, v, hr, h => by
    unfold V.rf at hr
    unfold VR at h ⊢
    obtain ⟨vs, h1, h2⟩ := h
    exact ⟨vs, h1, VCells.rf cs vs hr h2⟩
  | .eptr _ _ _, v, hr, _ => by unfold V.rf at hr; cases hr
theorem VCells.rf : ∀ (cs : List V) (vs : List Value), V.rfs cs = true → VCells X M w cs vs → VCells X' M w cs vs
  | [], vs, _, h => by unfold VCells at h ⊢; exact h
  | c :: cs, vs, hr, h => by
    unfold V.rfs at hr
    simp only [Bool.and_eq_true] at hr
    unfold VCells at h ⊢
    obtain ⟨v, rest, h1, h2, h3⟩ := h
    exact ⟨v, rest, h1, VR.rf c v hr.1 h2, VCells.rf cs rest hr.2 h3⟩
end
end
theorem rfs_map {α : Type} {E : α → V} (hE : ∀ x, (E x).rf = true) : ∀ l : List α, V.rfs (l.map E) = true
  | [] => by simp [V.rfs]
  | x :: l => by simp [V.rfs, hE, rfs_map hE l]
mutual
theorem V.rf_rn (f : Nat → Nat) : ∀ x : V, (x.rn f).rf = x.rf
  | .sc _ => by unfold V.rn; rfl
  | .any => by unfold V.rn; rfl
  | .row _ _ _ => by unfold V.rn; rfl
  | .ptr _ _ => by unfold V.rn; rfl
  | .mp _ => by unfold V.rn; rfl
  | .sl _ _ _ _ _ => by unfold V.rn; rfl
  | .eptr _ _ _ => by unfold V.rn; rfl
  | .agg cs => by unfold V.rn; simp only [V.rf]; exact V.rfs_rn f cs
  | .tup cs => by unfold V.rn; simp only [V.rf]; exact V.rfs_rn f cs
theorem V.rfs_rn (f : Nat → Nat) : ∀ cs : List V, V.rfs (V.rns f cs) = V.rfs cs
  | [] => by unfold V.rns; rfl
  | c :: cs => by unfold V.rns; simp only [V.rfs]; rw [V.rf_rn f c, V.rfs_rn f cs]
end

/-! ### Blocks that are lent for reading -/
def onlyI (β : List Nat) : Nat → Hp → Hp
  | _, [] => []
  | i, o :: h => (bif β.elem i then o else none) :: onlyI β (i + 1) h
def only (β : List Nat) (h : Hp) : Hp := onlyI β 0 h
theorem onlyI_get (β : List Nat) : ∀ (h : Hp) (i j : Nat), (onlyI β i h)[j]? = (h[j]?).map fun o => bif β.elem (i + j) then o else none
  | [], i, j => by simp [onlyI]
  | o :: h, i, 0 => by simp [onlyI]
  | o :: h, i, j + 1 => by
    simp only [onlyI, List.getElem?_cons_succ]
    rw [onlyI_get β h (i + 1) j]
    simp [Nat.add_assoc, Nat.add_comm 1 j]
theorem only_some {β : List Nat} {h : Hp} {j : Nat} {B : Blk} (hj : (only β h)[j]? = some (some B)) : j ∈ β ∧ h[j]? = some (some B) := by
  unfold only at hj
  rw [onlyI_get] at hj
  cases ho : h[j]? with
  | none => rw [ho] at hj; cases hj
  | some o =>
    rw [ho] at hj
    simp only [Nat.zero_add, Option.map_some, Option.some.injEq] at hj
    cases he : β.elem j with
    | false => rw [he] at hj; cases hj
    | true => rw [he] at hj; simp only [cond_true] at hj; subst hj; exact ⟨List.elem_iff.1 he, rfl⟩
theorem only_len (β : List Nat) (h : Hp) : (only β h).length = h.length := by
  have : ∀ (h : Hp) (i : Nat), (onlyI β i h).length = h.length := by
    intro h
    induction h with
    | nil => intro i; rfl
    | cons o h ih => intro i; simp [onlyI, ih]
  exact this h 0
/-- The blocks of β alone, against whatever else lives. -/
theorem HR.only {A A2 : Nat → Prop} {M : List (Option Nat)} {h : Hp} {w : World} (H : HR A M h w) (β : List Nat) (h1 : ∀ g, A2 g → g < w.heap.size) (h2 : ∀ (b : Nat) (B : Blk) (g : Nat), b ∈ β → h[b]? = some (some B) → M[b]? = some (some g) → ¬ A2 g)
    (h3 : ∀ g, Xs A2 M (Vm.only β h) g → Xs A M h g) : HR A2 M (Vm.only β h) w := by
  refine ⟨by rw [only_len]; exact H.len, h1, fun b B hb => ?_, fun b b' B B' g hb hb' => H.inj b b' B B' g (only_some hb).2 (only_some hb').2, H.glob.avoid fun g _ hx => h3 g hx⟩
  obtain ⟨hm, hb'⟩ := only_some hb
  obtain ⟨k0, hn | ⟨g, cs, hg, hA, hh, hle, hcs⟩⟩ := H.blk b B hb'
  · exact ⟨k0, .inl hn⟩
  · exact ⟨k0, .inr ⟨g, cs, hg, h2 b B g hm hb' hg, hh, hle, hcs.avoid (fun g _ hx => h3 g hx)⟩⟩

/-- The arguments: as they are, or read as rows. -/
def Brw (σ : Nat → Nat) (hE : Hp) : List V → List V → Prop
  | [], [] => True
  | x :: xs, y :: ys => (V.le noN x (y.rn σ) ∨ ∃ z, expTop hE x = some z ∧ V.le noN z y) ∧ Brw σ hE xs ys
  | _, _ => False
theorem Brw.nil {σ : Nat → Nat} {hE : Hp} : Brw σ hE [] [] := trivial
theorem Brw.same {σ : Nat → Nat} {hE : Hp} {x y : V} {xs ys : List V} (h : y.rn σ = x) (k : Brw σ hE xs ys) : Brw σ hE (x :: xs) (y :: ys) := ⟨.inl (by rw [h]; exact V.le_refl _ _), k⟩
theorem Brw.le {σ : Nat → Nat} {hE : Hp} {x y : V} {xs ys : List V} (h : V.le noN x (y.rn σ)) (k : Brw σ hE xs ys) : Brw σ hE (x :: xs) (y :: ys) := ⟨.inl h, k⟩
theorem Brw.row {σ : Nat → Nat} {hE : Hp} {x y : V} {xs ys : List V} (h : expTop hE x = some y) (k : Brw σ hE xs ys) : Brw σ hE (x :: xs) (y :: ys) := ⟨.inr ⟨y, h, V.le_refl _ _⟩, k⟩

theorem mapM_id {α : Type} {E : α → V} {F : V → Option V} (hE : ∀ x, F (E x) = some (E x)) : ∀ l : List α, (l.map E).mapM F = some (l.map E)
  | [] => rfl
  | x :: l => by
    simp only [List.map_cons, List.mapM_cons, hE, Option.bind_eq_bind, Option.bind_some, mapM_id hE l, Option.pure_def]
theorem exp_sl {α : Type} {E : α → V} {l : List α} {hE : Hp} {b q d : Nat} {e : TypeId} (hn : l.length = q) (hb : hE[b]? = some (some ⟨e, l.map E⟩)) (hx : ∀ x, expCell hE d (E x) = some (E x)) : expCell hE (d + 1) (.sl b 0 q 1 false) = some (.row none 1 (l.map E)) := by
  subst hn
  simp only [expCell, hb]
  rw [if_pos ⟨by simp, by omega, .inr trivial⟩]
  simp only [List.drop_zero, Nat.mul_one]
  rw [List.take_of_length_le (by simp), mapM_id hx]
  simp [chunks]

theorem exp_slT {α : Type} {E : α → V} {l : List α} {hE : Hp} {b q : Nat} {e : TypeId} (hn : l.length = q) (hb : hE[b]? = some (some ⟨e, l.map E⟩)) (hx : ∀ x, expCell hE 3 (E x) = some (E x)) : expTop hE (.sl b 0 q 1 false) = some (.row none 1 (l.map E)) := exp_sl hn hb hx
theorem exp_nil {F : V → Option V} : ([] : List V).mapM F = some [] := rfl
theorem exp_cons {F : V → Option V} {c y : V} {cs ys : List V} (h : F c = some y) (k : cs.mapM F = some ys) : (c :: cs).mapM F = some (y :: ys) := by simp [List.mapM_cons, h, k]
theorem exp_agg {hE : Hp} {cs ys : List V} (h : cs.mapM (expCell hE 4) = some ys) : expTop hE (.agg cs) = some (.agg ys) := by simp [expTop, h]
set_option maxHeartbeats 1000000 in
theorem Fn.borrow {P : Program} {f : FuncId} {hs hs' hb : Hp} {args xs : List V} {r : V} (hc : Fn P f hs args r hs') (ρ β : List Nat) (hlen : ρ.length = hs.length) (hnd : ρ.Nodup) (hlt : ∀ b ∈ ρ, b < hb.length) (hdis : ∀ b ∈ β, b ∉ ρ)
    (hlend : ∀ i b : Nat, ρ[i]? = some b → hb[b]? = (rnH (sg ρ hb.length) hs)[i]?) (hx : Brw (sg ρ hb.length) (only β hb) xs args) (hrf : r.rf = true) (hrb : ∀ (i : Nat) (B : Blk), hs'[i]? = some (some B) → V.rfs B.cells = true) :
    Fn P f hb xs (r.rn (sg ρ hb.length)) (lent hb ρ hs') := by
  intro A M w vs H hargs
  have hσ : ∀ i b : Nat, ρ[i]? = some b → sg ρ hb.length i = b := fun i b hi => by simp [sg, hi]
  have hσ' : ∀ i, ρ.length ≤ i → sg ρ hb.length i = hb.length + (i - ρ.length) := fun i hi => by simp [sg, hi]
  generalize hsg : sg ρ hb.length = σ at *
  let Ms : List (Option Nat) := ρ.map fun b => (M[b]?).getD none
  have hMs : ∀ i b : Nat, ρ[i]? = some b → Ms[i]? = M[b]? := by
    intro i b hi
    have hb' : b < M.length := by rw [H.len]; exact hlt b (List.mem_of_getElem? hi)
    simp only [Ms, List.getElem?_map, hi, Option.map_some]
    rw [List.getElem?_eq_getElem hb']
    rfl
  have hMslen : Ms.length = hs.length := by simp [Ms, hlen]
  have hfrom : ∀ b y, M[σ b]? = some y → Ms[b]? = some y := by
    intro b y hy
    rcases Nat.lt_or_ge b ρ.length with hl | hl
    · have hi : ρ[b]? = some ρ[b] := List.getElem?_eq_getElem hl
      rw [hMs b _ hi, ← hσ b _ hi]; exact hy
    · rw [hσ' b hl] at hy
      have := (List.getElem?_eq_some_iff.1 hy).1
      rw [H.len] at this; omega
  let A' : Nat → Prop := fun g => A g ∨ ∃ b B, b ∉ ρ ∧ b ∉ β ∧ hb[b]? = some (some B) ∧ M[b]? = some (some g)
  have hin : ∀ {i : Nat} {B : Blk}, hs[i]? = some (some B) → ∃ b, ρ[i]? = some b ∧ hb[b]? = some (some (B.rn σ)) ∧ Ms[i]? = M[b]? := by
    intro i B hi
    have hl : i < ρ.length := by rw [hlen]; exact (List.getElem?_eq_some_iff.1 hi).1
    have hr : ρ[i]? = some ρ[i] := List.getElem?_eq_getElem hl
    refine ⟨_, hr, ?_, hMs i _ hr⟩
    rw [hlend i _ hr, rnH_get, hi]; rfl
  have hliveS : ∀ g, Live Ms hs g → Live M hb g := by
    rintro g ⟨i, B, hi, hm⟩
    obtain ⟨b, _, hb1, hb2⟩ := hin hi
    exact ⟨b, _, hb1, by rw [← hb2]; exact hm⟩
  have hX1 : ∀ g, Xs A' Ms hs g → Xs A M hb g := by
    rintro g ((ha | ⟨b, B, _, _, hb1, hb2⟩) | hl)
    · exact .inl ha
    · exact .inr ⟨b, B, hb1, hb2⟩
    · exact .inr (hliveS g hl)
  have hout : ∀ {b : Nat} {B : Blk} {g : Nat}, b ∉ ρ → hb[b]? = some (some B) → M[b]? = some (some g) → ¬ Live Ms hs g := by
    rintro b B g hb0 hb1 hb2 ⟨i, C, hi, hm⟩
    obtain ⟨c, hc0, hc1, hc2⟩ := hin hi
    have := H.inj b c B _ g hb1 hc1 hb2 (by rw [← hc2]; exact hm)
    subst this
    exact hb0 (List.mem_of_getElem? hc0)
  have hA' : ∀ {b : Nat} {B : Blk} {g : Nat}, b ∈ β → hb[b]? = some (some B) → M[b]? = some (some g) → ¬ A' g := by
    rintro b B g hbβ hb1 hb2 (ha | ⟨c, C, hc0, hc3, hc1, hc2⟩)
    · obtain ⟨_, ⟨hn, _⟩ | ⟨g', cs, hg', hA, _⟩⟩ := H.blk b B hb1
      · rw [hb2] at hn; cases hn
      · rw [hb2] at hg'; injection hg' with hg'; injection hg' with hg'; subst hg'; exact hA ha
    · have := H.inj b c B C g hb1 hc1 hb2 hc2
      subst this; exact hc3 hbβ
  have HS : HR A' Ms hs w := by
    refine ⟨hMslen, ?_, ?_, ?_, H.glob.avoid fun g _ hx => hX1 g hx⟩
    · rintro g (ha | ⟨b, B, _, _, hb1, hb2⟩)
      · exact H.alt g ha
      · exact H.lt (.inr ⟨b, B, hb1, hb2⟩)
    · intro i B hi
      obtain ⟨b, hb0, hb1, hb2⟩ := hin hi
      obtain ⟨h1, h2⟩ := H.blk b _ hb1
      refine ⟨V.one_rns h1, ?_⟩
      rcases h2 with ⟨hn, hc0⟩ | ⟨g, cs, hg, hA, hh, hle, hcs⟩
      · refine .inl ⟨by rw [hb2]; exact hn, ?_⟩
        have := congrArg List.length hc0
        simp only [Blk.rn, V.rns_length, List.length_nil] at this
        exact List.eq_nil_of_length_eq_zero this
      · refine .inr ⟨g, cs, by rw [hb2]; exact hg, ?_, by simpa [Blk.rn, V.rns_length] using hh, ?_, ?_⟩
        · rintro (ha | ⟨c, C, hc0, _, hc1, hc2⟩)
          · exact hA ha
          · have := H.inj b c _ C g hb1 hc1 hg hc2
            subst this
            exact hc0 (List.mem_of_getElem? hb0)
        · simpa [Blk.rn, V.rns_length] using hle
        · have hcs' : VCells (Xs A M hb) M w (V.rns σ B.cells) (cs.toList.take B.cells.length) := by simpa [Blk.rn, V.rns_length] using hcs
          exact (VCells.rn_from hfrom _ _ hcs').avoid (fun g _ hx => hX1 g hx)
    · intro i j B C g hi hj mi mj
      obtain ⟨b, hb0, hb1, hb2⟩ := hin hi
      obtain ⟨c, hc0, hc1, hc2⟩ := hin hj
      have := H.inj b c _ _ g hb1 hc1 (by rw [← hb2]; exact mi) (by rw [← hc2]; exact mj)
      subst this
      have hil := (List.getElem?_eq_some_iff.1 hb0).1
      exact (List.getElem?_inj hil hnd).1 (hb0.trans hc0.symm)
  -- the blocks that are read
  have HB : HR (Xs A' Ms hs) M (only β hb) w := by
    refine H.only β (fun g hg => HS.lt hg) ?_ ?_
    · rintro b B g hbβ hb1 hb2 (ha | hl)
      · exact hA' hbβ hb1 hb2 ha
      · exact hout (hdis b hbβ) hb1 hb2 hl
    · rintro g (hx | ⟨b, B, hb1, hb2⟩)
      · exact hX1 g hx
      · exact .inr ⟨b, B, (only_some hb1).2, hb2⟩
  have hargsS : VCells (Xs A' Ms hs) Ms w args vs := by
    have key : ∀ (xs args : List V) (vs : List Value), Brw σ (only β hb) xs args → VCells (Xs A M hb) M w xs vs → VCells (Xs A' Ms hs) Ms w args vs := by
      intro xs
      induction xs with
      | nil =>
        intro args vs hx hv
        cases args with
        | nil => unfold VCells at hv ⊢; exact hv
        | cons => exact hx.elim
      | cons x xs ih =>
        intro args vs hx hv
        cases args with
        | nil => exact hx.elim
        | cons y ys =>
          unfold VCells at hv ⊢
          obtain ⟨v, rest, e1, e2, e3⟩ := hv
          refine ⟨v, rest, e1, ?_, ih ys rest hx.2 e3⟩
          rcases hx.1 with hl | ⟨z, hz, hl⟩
          · exact (VR.rn_from hfrom _ _ (V.le_sound (fun _ hb => by cases hb) _ _ _ hl e2)).avoid (fun g _ hx => hX1 g hx)
          · have e2' : VR (Xs (Xs A' Ms hs) M (only β hb)) M w x v := e2.avoid (fun g _ hx => by
              rcases hx with hx | ⟨b, B, hb1, hb2⟩
              · exact hX1 g hx
              · exact .inr ⟨b, B, (only_some hb1).2, hb2⟩)
            exact V.le_sound (fun _ hb => by cases hb) _ _ _ hl (expTop_sound HB e2' hz).lift
    exact key xs args vs hx hargs
  refine (hc A' Ms w vs HS hargsS).mono fun v w' ⟨Ms', G, hv⟩ => ?_
  obtain ⟨Mn, rfl⟩ := G.pre
  have hMnlen : hs'.length = ρ.length + Mn.length := by rw [← G.hr.len]; simp [Ms]
  have hto : ∀ b y, (Ms ++ Mn)[b]? = some y → (M ++ Mn)[σ b]? = some y := by
    intro b y hy
    rcases Nat.lt_or_ge b ρ.length with hl | hl
    · have hi : ρ[b]? = some ρ[b] := List.getElem?_eq_getElem hl
      rw [List.getElem?_append_left (by rw [hMslen, ← hlen]; exact hl), hMs b _ hi] at hy
      rw [hσ b _ hi, List.getElem?_append_left (by rw [H.len]; exact hlt _ (List.mem_of_getElem? hi))]
      exact hy
    · rw [List.getElem?_append_right (by rw [hMslen, ← hlen]; exact hl), hMslen, ← hlen] at hy
      rw [hσ' b hl, List.getElem?_append_right (by rw [H.len]; omega), H.len, show hb.length + (b - ρ.length) - hb.length = b - ρ.length by omega]
      exact hy
  have hlentlen : (lendSet hb ρ (rnH σ hs')).length = hb.length := lendSet_length _ _ _
  have hrnlen : (rnH σ hs').length = hs'.length := by simp [rnH]
  have hcase : ∀ {b : Nat} {B : Blk}, (lent hb ρ hs')[b]? = some (some B) → (b ∉ ρ ∧ hb[b]? = some (some B)) ∨ ∃ i C, hs'[i]? = some (some C) ∧ b = σ i ∧ B = C.rn σ ∧ (M ++ Mn)[b]? = (Ms ++ Mn)[i]? := by
    intro b B hb1
    unfold lent at hb1
    rw [hsg] at hb1
    rcases Nat.lt_or_ge b hb.length with hl | hl
    · rw [List.getElem?_append_left (by rw [hlentlen]; exact hl)] at hb1
      by_cases hm : b ∈ ρ
      · obtain ⟨i, hi⟩ := List.mem_iff_getElem?.1 hm
        rw [lendSet_in hnd hlt (by rw [hrnlen]; omega) hi] at hb1
        obtain ⟨C, hC, hB⟩ := rnH_some hb1
        have hil := (List.getElem?_eq_some_iff.1 hi).1
        refine .inr ⟨i, C, hC, (hσ i b hi).symm, hB, ?_⟩
        rw [List.getElem?_append_left (by rw [H.len]; exact hl), List.getElem?_append_left (by rw [hMslen, ← hlen]; exact hil), hMs i b hi]
      · rw [lendSet_out hm] at hb1
        exact .inl ⟨hm, hb1⟩
    · rw [List.getElem?_append_right (by rw [hlentlen]; exact hl), hlentlen, List.getElem?_drop] at hb1
      obtain ⟨C, hC, hB⟩ := rnH_some hb1
      refine .inr ⟨_, C, hC, ?_, hB, ?_⟩
      · rw [hσ' _ (by omega)]; omega
      · rw [List.getElem?_append_right (by rw [H.len]; exact hl), List.getElem?_append_right (by rw [hMslen, ← hlen]; omega), H.len, hMslen, ← hlen]
        congr 1; omega
  have hlive : ∀ g, g < w.heap.size → Live (M ++ Mn) (lent hb ρ hs') g → Live M hb g := by
    rintro g hg ⟨b, B, hb1, hb2⟩
    rcases hcase hb1 with ⟨hb0, hb3⟩ | ⟨i, C, hC, rfl, rfl, he⟩
    · refine ⟨b, B, hb3, ?_⟩
      rw [List.getElem?_append_left (by rw [H.len]; exact (List.getElem?_eq_some_iff.1 hb3).1)] at hb2
      exact hb2
    · exact hliveS g (G.live g hg ⟨i, C, hC, by rw [← he]; exact hb2⟩)
  have hnew : ∀ {i : Nat} {C : Blk} {b : Nat} {B : Blk} {g : Nat}, hs'[i]? = some (some C) → (Ms ++ Mn)[i]? = some (some g) → b ∉ ρ → hb[b]? = some (some B) → M[b]? = some (some g) → False := by
    intro i C b B g hi hm hb0 hb1 hb2
    have hgs : g < w.heap.size := H.lt (.inr ⟨b, B, hb1, hb2⟩)
    exact hout hb0 hb1 hb2 (G.live g hgs ⟨i, C, hi, hm⟩)
  refine ⟨M ++ Mn, ⟨⟨Mn, rfl⟩, ⟨?_, ?_, ?_, ?_, H.glob.ext G.ext (fun g _ hl => .inr (hliveS g hl)) (fun g hg hx => hx.elim .inl (fun hl => .inr (hlive g hg hl)))⟩, G.ext.mono (fun g _ hl => hliveS g hl), hlive⟩, VR.rf _ _ (by rw [V.rf_rn]; exact hrf) (VR.rn_to hto _ _ hv)⟩
  · unfold lent
    rw [hsg]
    simp only [List.length_append, List.length_drop, hlentlen, hrnlen, H.len]
    omega
  · exact fun g hg => Nat.lt_of_lt_of_le (H.alt g hg) G.ext.size
  · intro b B hb1
    rcases hcase hb1 with ⟨hb0, hb3⟩ | ⟨i, C, hC, rfl, rfl, he⟩
    · have hbl : b < M.length := by rw [H.len]; exact (List.getElem?_eq_some_iff.1 hb3).1
      obtain ⟨h1, ⟨hn, hc0⟩ | ⟨g, cs, hg, hA, hh, hle, hcs⟩⟩ := H.blk b B hb3
      · exact ⟨h1, .inl ⟨by rw [List.getElem?_append_left hbl]; exact hn, hc0⟩⟩
      · have hgs : g < w.heap.size := H.lt (.inr ⟨b, B, hb3, hg⟩)
        refine ⟨h1, .inr ⟨g, cs, by rw [List.getElem?_append_left hbl]; exact hg, hA, ?_, hle, ?_⟩⟩
        · exact hh.to (G.ext.block g hgs (hout hb0 hb3 hg))
        · exact VCells.ext G.ext ⟨Mn, rfl⟩ (fun g _ hl => .inr (hliveS g hl)) (fun g hg hx => hx.elim .inl (fun hl => .inr (hlive g hg hl))) _ _ hcs
    · obtain ⟨h1, h2⟩ := G.hr.blk i C hC
      refine ⟨V.rns_mem (V.rn_one σ) h1, ?_⟩
      rcases h2 with ⟨hn, hc0⟩ | ⟨g, cs, hg, hA, hh, hle, hcs⟩
      · refine .inl ⟨by rw [he]; exact hn, ?_⟩
        simp [Blk.rn, hc0, V.rns]
      · refine .inr ⟨g, cs, by rw [he]; exact hg, fun ha => hA (.inl ha), by simpa [Blk.rn, V.rns_length] using hh, ?_, ?_⟩
        · simpa [Blk.rn, V.rns_length] using hle
        · have h5 := VCells.rn_to hto _ _ hcs
          have h6 : VCells (Xs A (M ++ Mn) (lent hb ρ hs')) (M ++ Mn) w' (V.rns σ C.cells) (cs.toList.take C.cells.length) := VCells.rf _ _ (by rw [V.rfs_rn]; exact hrb i C hC) h5
          simpa [Blk.rn, V.rns_length] using h6
  · intro b c B C g hb1 hc1 mb mc
    rcases hcase hb1 with ⟨hb0, hb3⟩ | ⟨i, D, hD, rfl, rfl, he⟩ <;> rcases hcase hc1 with ⟨hc0, hc3⟩ | ⟨j, E, hE, rfl, rfl, he'⟩
    · rw [List.getElem?_append_left (by rw [H.len]; exact (List.getElem?_eq_some_iff.1 hb3).1)] at mb
      rw [List.getElem?_append_left (by rw [H.len]; exact (List.getElem?_eq_some_iff.1 hc3).1)] at mc
      exact H.inj b c B C g hb3 hc3 mb mc
    · rw [List.getElem?_append_left (by rw [H.len]; exact (List.getElem?_eq_some_iff.1 hb3).1)] at mb
      rw [he'] at mc
      exact (hnew hE mc hb0 hb3 mb).elim
    · rw [List.getElem?_append_left (by rw [H.len]; exact (List.getElem?_eq_some_iff.1 hc3).1)] at mc
      rw [he] at mb
      exact (hnew hD mb hc0 hc3 mc).elim
    · rw [G.hr.inj i j D E g hD hE (by rw [← he]; exact mb) (by rw [← he']; exact mc)]

def rfB : Hp → Prop
  | [] => True
  | none :: h => rfB h
  | some B :: h => V.rfs B.cells = true ∧ rfB h
theorem rfB.get : ∀ {h : Hp}, rfB h → ∀ (i : Nat) (B : Blk), h[i]? = some (some B) → V.rfs B.cells = true
  | [], _, i, B, hi => by simp at hi
  | none :: h, hh, 0, B, hi => by simp at hi
  | none :: h, hh, i + 1, B, hi => rfB.get (h := h) hh i B (by simpa using hi)
  | some C :: h, hh, 0, B, hi => by simp at hi; subst hi; exact hh.1
  | some C :: h, hh, i + 1, B, hi => rfB.get (h := h) hh.2 i B (by simpa using hi)
theorem rfB.nil : rfB [] := trivial
theorem rfB.dead {h : Hp} (k : rfB h) : rfB (none :: h) := k
theorem rfB.live {h : Hp} {e : TypeId} {cs : List V} (hc : V.rfs cs = true) (k : rfB h) : rfB (some ⟨e, cs⟩ :: h) := ⟨hc, k⟩
theorem Fn.lendR {P : Program} {f : FuncId} {hs hs' hb hb' : Hp} {args xs : List V} {r v : V} (hc : Fn P f hs args r hs') (ρ β : List Nat) (hnd : ρ.Nodup) (hlt : ρ.all (fun b => Nat.blt b hb.length) = true) (hdis : ∀ b ∈ β, b ∉ ρ) (hl : Lend (sg ρ hb.length) hb ρ hs)
    (hx : Brw (sg ρ hb.length) (only β hb) xs args) (hrf : r.rf = true) (hrb : rfB hs') (hr : r.rn (sg ρ hb.length) = v) (hh : lent hb ρ hs' = hb') : Fn P f hb xs v hb' := by
  have := Fn.borrow (hb := hb) hc ρ β hl.len hnd (fun b hb' => by
    have h2 := List.all_eq_true.1 hlt b hb'
    exact Nat.le_of_ble_eq_true (n := b + 1) h2) hdis hl.get hx hrf hrb.get
  rw [hr, hh] at this
  exact this
/-! ### More steps -/
section
variable {P : Program} {N : Nat} {Q : Ex → List V → Hp → Prop} {s : List V} {h h' : Hp}
theorem AB.seq_g {c d : Code} (hh : ∀ K : List V → Hp → Prop, (∀ s h, AB P N d Q s h → K s h) → (∀ s h s' h', Ghost N s h s' h' → K s' h' → K s h) → AB P N c (Ex.then K Q) s h) : AB P N (.seq c d) Q s h :=
  AB.seq (hh _ (fun _ _ hk => hk) (fun _ _ _ _ hg hk => AB.ghost hg hk))
variable {f : FuncId} {xs : List V} {r : V}
theorem Env.one_O {hm : P.follows .mixedOrders = true} {hc : Fn P f h xs r h'} {g : FuncId → Bool} {hg : ∀ k, g k = true → h' = h} : (Env.one hm hc g hg).O f h xs = some (r, h') := by simp [Env.one]
theorem Env.add_O {E : Env P} {hc : Fn P f h xs r h'} {g : FuncId → Bool} {hg : ∀ k, g k = true → h' = h} {hE : ∀ k, g k = true → E.F k = true} : (E.add hc g hg hE).O f h xs = some (r, h') := by simp [Env.add]
theorem Env.add_M {E : Env P} {hc : Fn P f h xs r h'} {g : FuncId → Bool} {hg : ∀ k, g k = true → h' = h} {hE : ∀ k, g k = true → E.F k = true} {k : FuncId} {h1 : Hp} {ys : List V} {o : Option (V × Hp)} (hne : (k == f) = false) (hk : E.O k h1 ys = o) : (E.add hc g hg hE).O k h1 ys = o := by
  have : k ≠ f := by simpa using hne
  simp [Env.add, this, hk]
variable (t : TypeId) (xo yo : Operand)
theorem equal_bool {t : TypeId} {sz by_ : Nat} {z : Value} (ht : tiOf P t = some ⟨.bool, sz, by_, z⟩) (a b : Bool) : evalPure P (Op.equal t (.bool a) (.bool b)) = some (a == b) := by
  have h1 := (tiOf_spec ht).1
  have e1 : underlying t = Sem.program fun p => match p.underlying t with | some d => pure d | none => stuck "no such type" := rfl
  unfold Op.equal Op.maxDepth
  show evalPure P (Op.equalIn (9999 + 1) t (.bool a) (.bool b)) = _
  rw [Op.equalIn, e1]
  show evalPure P (Sem.bind (Sem.program _) _) = _
  simp only [Sem.bind, evalPure, h1]
  rfl
theorem evalPure_map {α β : Type} (s : Sem α) (f : α → β) {a : α} (h : evalPure P s = some a) : evalPure P (Functor.map f s) = some (f a) := by
  show evalPure P (Sem.bind s _) = _
  induction s with
  | pure x => simp only [evalPure, Option.some.injEq] at h; subst h; rfl
  | program k ih => exact ih P h
  | mark m k ih => exact ih h
  | _ => simp [evalPure] at h
theorem bin_eqlB {t : TypeId} {sz by_ : Nat} {z : Value} (ht : tiOf P t = some ⟨.bool, sz, by_, z⟩) (a b : Bool) : binV P .eql t xo yo (.sc (.bool a)) (.sc (.bool b)) = some (.sc (.bool (a == b))) := by
  simp only [binV, toVal, cellVal, guard_bool, pureV]
  have : evalPure P (do (pure () : Sem Unit); binOp .eql t (.bool a) (.bool b)) = some (.bool (a == b)) := evalPure_map _ _ (equal_bool ht a b)
  exact congrArg (Option.map ofValue) this
theorem bin_neqB {t : TypeId} {sz by_ : Nat} {z : Value} (ht : tiOf P t = some ⟨.bool, sz, by_, z⟩) (a b : Bool) : binV P .neq t xo yo (.sc (.bool a)) (.sc (.bool b)) = some (.sc (.bool (a != b))) := by
  simp only [binV, toVal, cellVal, guard_bool, pureV]
  have : evalPure P (do (pure () : Sem Unit); binOp .neq t (.bool a) (.bool b)) = some (.bool (!(a == b))) := evalPure_map _ (fun b => Value.bool !b) (equal_bool ht a b)
  exact congrArg (Option.map ofValue) this
theorem bin_eqlS (a b : ByteArray) : binV P .eql t xo yo (.sc (.string a)) (.sc (.string b)) = some (.sc (.bool (a.toList == b.toList))) := by
  simp only [binV, toVal, cellVal, guard_string, pureV]; rfl
theorem bin_neqS (a b : ByteArray) : binV P .neq t xo yo (.sc (.string a)) (.sc (.string b)) = some (.sc (.bool (!(a.toList == b.toList)))) := by
  simp only [binV, toVal, cellVal, guard_string, pureV]; rfl
theorem lenN {e : TypeId} {sz by_ : Nat} {z : Value} {nl : Option Bool} {k : Nat} {t : TypeId} (ht : tiOf P t = some ⟨.slice e, sz, by_, z⟩) : lenV P t (.row nl k []) = some (.sc (.int .i64 0)) := by simp [lenV, ht]
theorem fldS {t : TypeId} {fs : Array Field} {sz by_ i : Nat} {z : Value} {fl : Field} {cs : List V} {v : V} (ht : tiOf P t = some ⟨.struct fs, sz, by_, z⟩) (hf : fs[i]? = some fl) (hp : partV P fl.type (cs.drop fl.offset) = some v) : fieldV P t (.agg cs) i = some v := by simp [fieldV, ht, hf, hp]
theorem minV2 {ts : Array TypeId} {ty : TypeId} {k : IntKind} {a b : Int} : minV P ts ty [.sc (.int k a), .sc (.int k b)] false = some (.sc (.int k (if b < a then b else a))) := by
  simp [minV, cellVal, Builtin.min_, Builtin.min2, pureV]; rfl
theorem maxV2 {ts : Array TypeId} {ty : TypeId} {k : IntKind} {a b : Int} : minV P ts ty [.sc (.int k a), .sc (.int k b)] true = some (.sc (.int k (if b > a then b else a))) := by
  simp [minV, cellVal, Builtin.max_, Builtin.max2, pureV]; rfl
end
/-- append to a part of a local row. -/
theorem appP {P : Program} {h h' : Hp} {t e : TypeId} {ti : TI} {i b : Nat} {α : Type} {E : α → V} {l m : List α} {sz by_ : Nat} {z : Value} {ag : Bool} {q : Nat} (hn : q ≤ l.length) (ht : tiOf P t = some ⟨.slice e, sz, by_, z⟩) (he : tiOf P e = some ti) (h1 : ti.zero.cells.size = 1 ∧ ti.size = 1 ∧ 1 ≤ ti.bytes) (hb : h[b]? = some (some ⟨e, l.map E⟩)) {s : V} (hs : srcV h 1 s = some (m.map E, m.length))
    {r : List α} (ha : app ti.bytes (l.take q) m = some r) (hl : h.length = i) (hh : h.set b none ++ [some ⟨e, r.map E⟩] = h') : appendV P t t (.sl b 0 q 1 ag) s h = some (.sl i 0 r.length 1 ag, h') := by
  obtain ⟨h2, h3, h4⟩ := h1
  unfold app at ha
  split at ha
  · rename_i hlim
    injection ha with ha
    have hql : (l.take q).length = q := by simp; omega
    rw [hql] at hlim
    subst ha hl hh
    have hx : srcV h ti.size s = some (m.map E, m.length) := by rw [h3]; exact hs
    simp only [appendV, ne_eq, not_true, if_false, ht, he]
    rw [if_pos ⟨by rw [h2, h3], by omega, h4⟩]
    simp only [hx, hb]
    rw [if_pos ⟨h3.symm, trivial, by simp; omega, hlim⟩]
    simp [List.map_take, Nat.min_eq_left hn]
  · cases ha
/-- make with no elements and some room. -/
theorem mkC {P : Program} {h h' : Hp} {t e : TypeId} {ti : TI} {i : Nat} {α : Type} {E : α → V} {sz by_ : Nat} {z : Value} {ag : Bool} {j : Int} {y : α} (ht : tiOf P t = some ⟨.slice e, sz, by_, z⟩) (he : tiOf P e = some ti) (h1 : 1 ≤ ti.bytes ∧ ti.size = 1 ∧ ti.zero.cells.size = 1) (hz : ti.zero.cells.toList.map ofCell = [E y]) (ho : (E y).one = true) (hag : isAggD ti.desc = ag) {r : List α}
    (hm : mks ti.bytes y j = some r) (hl : h.length = i) (hh : h ++ [some ⟨e, r.map E⟩] = h') : makeV P t (.sc (.int .i64 0)) (.sc (.int .i64 j)) h = some (.sl i 0 0 1 ag, h') := by
  obtain ⟨h2, h3, h4⟩ := h1
  unfold mks at hm
  split at hm
  · rename_i hlim
    injection hm with hm
    subst hm hl hh hag
    simp only [makeV, ht, he]
    rw [if_pos ⟨Int.le_refl _, hlim.1, hlim.2, h2, by omega, by rw [h4, h3], by rw [hz]; simp [ho]⟩, hz]
    simp only [h3]
    have : ∀ n, (List.replicate n [E y]).flatten = (List.replicate n y).map E := fun n => by
      induction n with
      | zero => rfl
      | succ n ih => simp only [List.replicate_succ, List.flatten_cons, ih, List.map_cons]; rfl
    rw [this]; simp
  · cases hm
def numP : Nat → List V → List (Nat × V)
  | _, [] => []
  | i, x :: xs => (i, x) :: numP (i + 1) xs
theorem fill_num : ∀ (xs : List V) (i : Nat) (cells : List V), cells.length = i + xs.length → xs.all (fun x => x.one && (x.cells.length == 1)) = true → fillV (fun i => some (i * 1, 1)) cells (numP i xs) = some (cells.take i ++ xs)
  | [], i, cells, hl, _ => by
    simp only [numP, fillV, List.append_nil]
    rw [List.take_of_length_le (by simp at hl; omega)]
  | x :: xs, i, cells, hl, ho => by
    simp only [List.all_cons, Bool.and_eq_true, beq_iff_eq] at ho
    obtain ⟨⟨h1, h2⟩, h3⟩ := ho
    simp only [List.length_cons] at hl
    have hc : x.cells = [x] := by cases x <;> first | rfl | simp [V.one] at h1
    simp only [numP, fillV]
    rw [if_pos ⟨by simp [V.flatOk, hc, h1], h2, by omega⟩, hc]
    have hs : splice cells (i * 1) [x] = cells.set i x := by
      have := splice_map (E := fun v : V => v) (l := cells) i (by omega) x
      simpa using this
    rw [hs, fill_num xs (i + 1) _ (by simp; omega) (by simpa [List.all_eq_true, Bool.and_eq_true] using h3)]
    congr 1
    rw [List.take_succ_eq_append_getElem (by simp; omega)]
    simp [List.take_set_of_le]
theorem bldL1 {P : Program} {h h' : Hp} {t e : TypeId} {ti : TI} {i sz by_ len : Nat} {z : Value} {ps : List (Nat × V)} {xs : List V} {ag : Bool} (ht : tiOf P t = some ⟨.slice e, sz, by_, z⟩) (he : tiOf P e = some ti) (h1 : len * 1 ≤ 2 ^ 24) (h2 : 0 < len) (hs : ti.size = 1) (hag : isAggD ti.desc = ag)
    (hp : numP 0 xs = ps) (ho : xs.all (fun x => x.one && (x.cells.length == 1)) = true) (hlen : xs.length = len) (hl : h.length = i) (hh : h ++ [some ⟨e, xs⟩] = h') : buildSliceV P t len ps h = some (.sl i 0 len 1 ag, h') := by
  have hones : xs.all V.one = true := by
    rw [List.all_eq_true] at ho ⊢
    intro x hx
    have := ho x hx
    simp only [Bool.and_eq_true] at this
    exact this.1
  subst hp
  have := bldL (h := h) (len := len) (cs := xs) (ps := numP 0 xs) (i := i) (h' := h') ht he (by rw [hs]; exact ⟨h1, h2, by omega⟩) hag (by
    rw [hs]
    rw [fill_num xs 0 _ (by simp [hs, hlen]) ho]
    simp) ⟨hones, by rw [hs, hlen]; omega⟩ hl hh
  rw [hs] at this
  exact this
theorem Ghost.refl (N : Nat) (s : List V) (h : Hp) : Ghost N s h s h := fun A M a w _ R => ⟨M, rfl, R, fun _ hl => hl⟩
end Go.Vm
