import Derived.Test.YtbjiaiobpbpjoaaVmSym
set_option linter.unusedSimpArgs false
set_option linter.unusedVariables false
namespace Go.Vm
open Go

/-! ### The same state, told otherwise -/
def Ghost (N : Nat) (s : List V) (h : Hp) (s' : List V) (h' : Hp) : Prop :=
  ∀ (A : Nat → Prop) (M : List (Option Nat)) (a : Act) (w : World), N ≤ M.length → Rel A M s h a w →
    ∃ M', M'.take N = M.take N ∧ Rel A M' s' h' a w ∧ ∀ g, Live M' h' g → Live M h g
theorem AB.ghost {P : Program} {N : Nat} {c : Code} {Q : Ex → List V → Hp → Prop} {s s' : List V} {h h' : Hp} (hg : Ghost N s h s' h') (hh : AB P N c Q s' h') : AB P N c Q s h := by
  intro A M0 M h0 w0 a w hN hM G R
  obtain ⟨t, ht⟩ := G.pre
  have hle : N ≤ M.length := by rw [← ht]; simp [hM]
  obtain ⟨M', h1, h2, h3⟩ := hg A M a w hle R
  refine hh A M0 M' h0 w0 a w hN hM ⟨?_, h2.hr, G.ext, fun g hg hl => G.live g hg (h3 g hl)⟩ h2
  have : M0 = M'.take N := by rw [h1, ← ht, ← hM]; simp
  rw [this]
  exact List.take_prefix _ _

/-- The slots that are still told. -/
def FLe (vn : Nat → Bool) (g : V → V) (fr : List (Nat × V)) : List (Nat × V) → Prop
  | [] => True
  | (t, y) :: r => (∃ x, look fr t = some x ∧ V.le vn x (g y)) ∧ FLe vn g fr r
theorem FLe.nil {vn : Nat → Bool} {g : V → V} {fr : List (Nat × V)} : FLe vn g fr [] := trivial
theorem FLe.same {vn : Nat → Bool} {g : V → V} {fr r : List (Nat × V)} {t : Nat} {y : V} (h : look fr t = some (g y)) (k : FLe vn g fr r) : FLe vn g fr ((t, y) :: r) := ⟨⟨_, h, V.le_refl _ _⟩, k⟩
theorem FLe.le {vn : Nat → Bool} {g : V → V} {fr r : List (Nat × V)} {t : Nat} {x y : V} (h : look fr t = some x) (hl : V.le vn x (g y)) (k : FLe vn g fr r) : FLe vn g fr ((t, y) :: r) := ⟨⟨_, h, hl⟩, k⟩
theorem FLe.get {vn : Nat → Bool} {g : V → V} {fr : List (Nat × V)} : ∀ {fr' : List (Nat × V)}, FLe vn g fr fr' → ∀ {t : Nat} {y : V}, look fr' t = some y → ∃ x, look fr t = some x ∧ V.le vn x (g y)
  | [], _, t, y, hy => by cases hy
  | (u, z) :: r, h, t, y, hy => by
    simp only [look] at hy
    cases hb : Nat.beq u t with
    | true =>
      rw [hb] at hy
      have := Nat.eq_of_beq_eq_true hb
      subst this
      simp only [cond_true, Option.some.injEq] at hy
      subst hy
      exact h.1
    | false => rw [hb] at hy; exact h.2.get hy
theorem mkF_val {X : Nat → Prop} {M M' : List (Option Nat)} {w : World} {n : Nat} {fr fr' : List (Nat × V)} {a : Act} {X' : Nat → Prop} (S : SR X M w (mkF n fr) a)
    (hh : ∀ (t : Nat) (y : V), look fr' t = some y → ∃ x, look fr t = some x ∧ ∀ v, VR X M w x v → VR X' M' w y v) : SR X' M' w (mkF n fr') a := by
  refine ⟨by rw [mkF_len, ← S.len, mkF_len], fun t y hy => ?_⟩
  have ht : t < n := by have := (List.getElem?_eq_some_iff.1 hy).1; rw [mkF_len] at this; exact this
  rw [mkF_get ht] at hy
  injection hy with hy
  cases hl : look fr' t with
  | none => rw [hl] at hy; subst hy; unfold VR; trivial
  | some z =>
    rw [hl] at hy
    subst hy
    obtain ⟨x, hx, hv⟩ := hh t z hl
    exact hv _ (S.val t x (by rw [mkF_get ht, hx]; rfl))
theorem Ghost.weak {N n : Nat} {fr fr' : List (Nat × V)} {h : Hp} (hf : FLe noN id fr fr') : Ghost N (mkF n fr) h (mkF n fr') h := fun A M a w _ R =>
  ⟨M, rfl, ⟨R.hr, mkF_val R.sr (fun t y hy => by
    obtain ⟨x, hx, hl⟩ := hf.get hy
    exact ⟨x, hx, fun v hv => V.le_sound (fun _ hb => by cases hb) _ _ _ hl hv⟩), R.defers⟩, fun _ hl => hl⟩

/-! ### New names -/
def HLe (f : Nat → Nat) (h : Hp) : List Nat → Hp → Prop
  | [], [] => True
  | _ :: σ, none :: h' => HLe f h σ h'
  | b :: σ, some B' :: h' => (∃ B, h[b]? = some (some B) ∧ B.e = B'.e ∧ V.les noN B.cells (V.rns f B'.cells) ∧ B'.cells.all V.one = true) ∧ HLe f h σ h'
  | _, _ => False
theorem HLe.nil {f : Nat → Nat} {h : Hp} : HLe f h [] [] := trivial
theorem HLe.dead {f : Nat → Nat} {h h' : Hp} {b : Nat} {σ : List Nat} (k : HLe f h σ h') : HLe f h (b :: σ) (none :: h') := k
theorem HLe.live {f : Nat → Nat} {h h' : Hp} {b : Nat} {σ : List Nat} {e : TypeId} {cs cs' : List V} (hb : h[b]? = some (some ⟨e, cs⟩)) (hc : V.les noN cs (V.rns f cs')) (ho : cs'.all V.one = true) (k : HLe f h σ h') : HLe f h (b :: σ) (some ⟨e, cs'⟩ :: h') := ⟨⟨_, hb, rfl, hc, ho⟩, k⟩
theorem HLe.get {f : Nat → Nat} {h : Hp} : ∀ {σ : List Nat} {h' : Hp}, HLe f h σ h' → ∀ {j : Nat} {B' : Blk}, h'[j]? = some (some B') → ∃ b B, σ[j]? = some b ∧ h[b]? = some (some B) ∧ B.e = B'.e ∧ V.les noN B.cells (V.rns f B'.cells) ∧ B'.cells.all V.one = true
  | [], [], _, j, B', hj => by simp at hj
  | b :: σ, none :: h', hh, j, B', hj => by
    cases j with
    | zero => simp at hj
    | succ j => simp only [List.getElem?_cons_succ] at hj ⊢; exact HLe.get (σ := σ) hh hj
  | b :: σ, some B :: h', hh, j, B', hj => by
    cases j with
    | zero =>
      simp only [List.getElem?_cons_zero, Option.some.injEq] at hj
      subst hj
      obtain ⟨C, h1, h2, h3, h4⟩ := hh.1
      exact ⟨b, C, rfl, h1, h2, h3, h4⟩
    | succ j => simp only [List.getElem?_cons_succ] at hj ⊢; exact HLe.get (σ := σ) hh.2 hj
  | [], _ :: _, hh, _, _, _ => hh.elim
  | _ :: _, [], hh, _, _, _ => hh.elim
theorem HLe.len {f : Nat → Nat} {h : Hp} : ∀ {σ : List Nat} {h' : Hp}, HLe f h σ h' → σ.length = h'.length
  | [], [], _ => rfl
  | b :: σ, none :: h', hh => by simp [HLe.len (σ := σ) hh]
  | b :: σ, some B :: h', hh => by simp [HLe.len (σ := σ) hh.2]
  | [], _ :: _, hh => hh.elim
  | _ :: _, [], hh => hh.elim
def lvs : List Nat → Hp → List Nat
  | b :: σ, some _ :: h' => b :: lvs σ h'
  | _ :: σ, none :: h' => lvs σ h'
  | _, _ => []
theorem lvs_mem : ∀ {σ : List Nat} {h' : Hp} {j b : Nat} {B : Blk}, h'[j]? = some (some B) → σ[j]? = some b → b ∈ lvs σ h'
  | [], _, j, b, B, _, hb => by simp at hb
  | _ :: _, [], j, b, B, hj, _ => by simp at hj
  | c :: σ, some C :: h', 0, b, B, hj, hb => by simp at hb; simp [lvs, hb]
  | c :: σ, some C :: h', j + 1, b, B, hj, hb => by
    simp only [List.getElem?_cons_succ] at hj hb
    simp [lvs, lvs_mem hj hb]
  | c :: σ, none :: h', 0, b, B, hj, hb => by simp at hj
  | c :: σ, none :: h', j + 1, b, B, hj, hb => by
    simp only [List.getElem?_cons_succ] at hj hb
    simp [lvs, lvs_mem hj hb]
theorem lvs_inj : ∀ {σ : List Nat} {h' : Hp}, (lvs σ h').Nodup → ∀ {i j b : Nat} {B C : Blk}, h'[i]? = some (some B) → h'[j]? = some (some C) → σ[i]? = some b → σ[j]? = some b → i = j
  | [], _, _, i, j, b, B, C, _, _, hb, _ => by simp at hb
  | _ :: _, [], _, i, j, b, B, C, hi, _, _, _ => by simp at hi
  | c :: σ, some D :: h', hn, 0, 0, b, B, C, _, _, _, _ => rfl
  | c :: σ, some D :: h', hn, 0, j + 1, b, B, C, hi, hj, bi, bj => by
    simp only [List.getElem?_cons_succ, List.getElem?_cons_zero, Option.some.injEq] at hj bi bj
    subst bi
    exact absurd (lvs_mem hj bj) (List.nodup_cons.1 hn).1
  | c :: σ, some D :: h', hn, i + 1, 0, b, B, C, hi, hj, bi, bj => by
    simp only [List.getElem?_cons_succ, List.getElem?_cons_zero, Option.some.injEq] at hi bi bj
    subst bj
    exact absurd (lvs_mem hi bi) (List.nodup_cons.1 hn).1
  | c :: σ, some D :: h', hn, i + 1, j + 1, b, B, C, hi, hj, bi, bj => by
    simp only [List.getElem?_cons_succ] at hi hj bi bj
    rw [lvs_inj (List.nodup_cons.1 hn).2 hi hj bi bj]
  | c :: σ, none :: h', hn, 0, _, b, B, C, hi, _, _, _ => by simp at hi
  | c :: σ, none :: h', hn, i + 1, 0, b, B, C, _, hj, _, _ => by simp at hj
  | c :: σ, none :: h', hn, i + 1, j + 1, b, B, C, hi, hj, bi, bj => by
    simp only [List.getElem?_cons_succ] at hi hj bi bj
    rw [lvs_inj (σ := σ) hn hi hj bi bj]

def ndB : List Nat → Bool
  | [] => true
  | b :: l => !(l.elem b) && ndB l
theorem ndB_nodup : ∀ {l : List Nat}, ndB l = true → l.Nodup
  | [], _ => List.nodup_nil
  | b :: l, h => by
    simp only [ndB, Bool.and_eq_true, Bool.not_eq_true'] at h
    refine List.nodup_cons.2 ⟨fun hm => ?_, ndB_nodup h.2⟩
    rw [List.elem_eq_true_of_mem hm] at h
    cases h.1
theorem sg_lt {ρ : List Nat} {L i b : Nat} (h : ρ[i]? = some b) : sg ρ L i = b := by simp [sg, h]
theorem sg_ge {ρ : List Nat} {L i : Nat} (h : ρ.length ≤ i) : sg ρ L i = L + (i - ρ.length) := by simp [sg, h]
theorem V.les_length {vn : Nat → Bool} : ∀ {cs ds : List V}, V.les vn cs ds → cs.length = ds.length
  | [], [], _ => rfl
  | c :: cs, d :: ds, h => by unfold V.les at h; simp [V.les_length h.2]
  | [], _ :: _, h => by unfold V.les at h; exact h.elim
  | _ :: _, [], h => by unfold V.les at h; exact h.elim
theorem V.le_one {vn : Nat → Bool} {x y : V} (h : V.le vn x y) (hx : x.one = true) : y.one = true ∨ y = .any := by
  cases x <;> cases y <;> first | exact .inl rfl | exact .inr rfl | (unfold V.le at h; injection h with h; subst h; exact .inl hx) | (unfold V.le at h; cases h) | (simp [V.one] at hx)
/-- Renaming: σ gives, for each new name, the old one. -/
theorem Ghost.rn {N n : Nat} {fr fr' : List (Nat × V)} {h h' : Hp} (σ : List Nat) (hσ : σ.take N = List.range N) (hlt : σ.all (fun b => Nat.blt b h.length) = true) (hf : FLe noN (V.rn (sg σ h.length)) fr fr')
    (hh : HLe (sg σ h.length) h σ h') (hnd : ndB (lvs σ h') = true) : Ghost N (mkF n fr) h (mkF n fr') h' := by
  intro A M a w hN R
  have hM : M.length = h.length := R.hr.len
  have hltb : ∀ b ∈ σ, b < M.length := fun b hb => by
    have h2 := List.all_eq_true.1 hlt b hb
    rw [hM]; exact Nat.le_of_ble_eq_true (n := b + 1) h2
  let M' : List (Option Nat) := σ.map fun b => (M[b]?).getD none
  have hM' : ∀ {j b : Nat}, σ[j]? = some b → M'[j]? = M[b]? := by
    intro j b hj
    have hb := hltb b (List.mem_of_getElem? hj)
    simp only [M', List.getElem?_map, hj, Option.map_some]
    rw [List.getElem?_eq_getElem hb]; rfl
  have hfrom : ∀ b y, M[sg σ h.length b]? = some y → M'[b]? = some y := by
    intro b y hy
    rcases Nat.lt_or_ge b σ.length with hl | hl
    · have hi : σ[b]? = some σ[b] := List.getElem?_eq_getElem hl
      rw [hM' hi]; rw [sg_lt hi] at hy; exact hy
    · rw [sg_ge hl] at hy
      have := (List.getElem?_eq_some_iff.1 hy).1
      omega
  have hlive : ∀ g, Live M' h' g → Live M h g := by
    rintro g ⟨j, B', hj, hm⟩
    obtain ⟨b, B, h1, h2, _⟩ := hh.get hj
    exact ⟨b, B, h2, by rw [← hM' h1]; exact hm⟩
  have hX : ∀ g, Xs A M' h' g → Xs A M h g := fun g hx => hx.elim .inl (fun hl => .inr (hlive g hl))
  refine ⟨M', ?_, ⟨⟨by simp [M', hh.len], R.hr.alt, ?_, ?_, R.hr.glob.avoid fun g _ hx => hX g hx⟩, ?_, R.defers⟩, hlive⟩
  · simp only [M', ← List.map_take, hσ]
    apply List.ext_getElem?
    intro i
    rw [List.getElem?_map, List.getElem?_take]
    rcases Nat.lt_or_ge i N with hi | hi
    · simp only [List.getElem?_range hi, Option.map_some, hi, if_true]
      rw [List.getElem?_eq_getElem (Nat.lt_of_lt_of_le hi hN)]; rfl
    · have : ¬ i < N := by omega
      simp [this]
  · intro j B' hj
    obtain ⟨b, B, h1, h2, h3, h4, h5⟩ := hh.get hj
    refine ⟨List.all_eq_true.1 h5, ?_⟩
    have hlen : B.cells.length = B'.cells.length := by rw [V.les_length h4, V.rns_length]
    rcases (R.hr.blk b B h2).2 with ⟨hn, hc0⟩ | ⟨g, cs, hg, hA, hw, hle, hcs⟩
    · refine .inl ⟨by rw [hM' h1]; exact hn, List.eq_nil_of_length_eq_zero (by rw [← hlen, hc0]; rfl)⟩
    · refine .inr ⟨g, cs, by rw [hM' h1]; exact hg, hA, by rw [← h3, ← hlen]; exact hw, by rw [← hlen]; exact hle, ?_⟩
      rw [← hlen]
      exact (VCells.rn_from hfrom _ _ (V.les_sound (fun _ hb => by cases hb) _ _ _ h4 hcs)).avoid (fun g _ hx => hX g hx)
  · intro i j B C g hi hj mi mj
    obtain ⟨b, B1, h1, h2, _⟩ := hh.get hi
    obtain ⟨c, C1, k1, k2, _⟩ := hh.get hj
    have := R.hr.inj b c B1 C1 g h2 k2 (by rw [← hM' h1]; exact mi) (by rw [← hM' k1]; exact mj)
    subst this
    exact lvs_inj (ndB_nodup hnd) hi hj h1 k1
  · exact mkF_val R.sr (fun t y hy => by
      obtain ⟨x, hx, hl⟩ := hf.get hy
      exact ⟨x, hx, fun v hv => (VR.rn_from hfrom _ _ (V.le_sound (fun _ hb => by cases hb) _ _ _ hl hv)).avoid (fun g _ hx => hX g hx)⟩)

/-! ### Rows that are nil get a name -/
def HLv (vn : Nat → Bool) : Hp → Hp → Prop
  | [], [] => True
  | none :: h, none :: h' => HLv vn h h'
  | some B :: h, some B' :: h' => (B.e = B'.e ∧ V.les vn B.cells B'.cells ∧ B'.cells.all V.one = true) ∧ HLv vn h h'
  | _, _ => False
theorem HLv.nil {vn : Nat → Bool} : HLv vn [] [] := trivial
theorem HLv.dead {vn : Nat → Bool} {h h' : Hp} (k : HLv vn h h') : HLv vn (none :: h) (none :: h') := k
theorem HLv.live {vn : Nat → Bool} {h h' : Hp} {e : TypeId} {cs cs' : List V} (hc : V.les vn cs cs') (ho : cs'.all V.one = true) (k : HLv vn h h') : HLv vn (some ⟨e, cs⟩ :: h) (some ⟨e, cs'⟩ :: h') := ⟨⟨rfl, hc, ho⟩, k⟩
theorem HLv.get {vn : Nat → Bool} : ∀ {h h' : Hp}, HLv vn h h' → ∀ {j : Nat} {B' : Blk}, h'[j]? = some (some B') → ∃ B, h[j]? = some (some B) ∧ B.e = B'.e ∧ V.les vn B.cells B'.cells ∧ B'.cells.all V.one = true
  | [], [], _, j, B', hj => by simp at hj
  | none :: h, none :: h', hh, j, B', hj => by
    cases j with
    | zero => simp at hj
    | succ j => simp only [List.getElem?_cons_succ] at hj ⊢; exact HLv.get (h := h) hh hj
  | some B :: h, some C :: h', hh, j, B', hj => by
    cases j with
    | zero =>
      simp only [List.getElem?_cons_zero, Option.some.injEq] at hj
      subst hj
      exact ⟨B, rfl, hh.1.1, hh.1.2.1, hh.1.2.2⟩
    | succ j => simp only [List.getElem?_cons_succ] at hj ⊢; exact HLv.get (h := h) hh.2 hj
  | [], _ :: _, hh, _, _, _ => hh.elim
  | none :: _, [], hh, _, _, _ => hh.elim
  | some _ :: _, [], hh, _, _, _ => hh.elim
  | none :: _, some _ :: _, hh, _, _, _ => hh.elim
  | some _ :: _, none :: _, hh, _, _, _ => hh.elim
theorem HLv.len {vn : Nat → Bool} : ∀ {h h' : Hp}, HLv vn h h' → h.length = h'.length
  | [], [], _ => rfl
  | none :: h, none :: h', hh => by simp [HLv.len (h := h) hh]
  | some B :: h, some C :: h', hh => by simp [HLv.len (h := h) hh.2]
  | [], _ :: _, hh => hh.elim
  | none :: _, [], hh => hh.elim
  | some _ :: _, [], hh => hh.elim
  | none :: _, some _ :: _, hh => hh.elim
  | some _ :: _, none :: _, hh => hh.elim
/-- A name for rows that are nil. -/
theorem Ghost.virt {N n : Nat} {fr fr' : List (Nat × V)} {h h1 : Hp} (e : TypeId) (hf : FLe (fun b => Nat.beq b h.length) id fr fr') (hh : HLv (fun b => Nat.beq b h.length) h h1)
    : Ghost N (mkF n fr) h (mkF n fr') (h1 ++ [some ⟨e, []⟩]) := by
  intro A M a w hN R
  have hM : M.length = h.length := R.hr.len
  have G := Grow.virt R.hr e
  have hvn : ∀ b, Nat.beq b h.length = true → (M ++ [none])[b]? = some none := fun b hb => by
    have := Nat.eq_of_beq_eq_true hb
    subst this
    rw [← hM]; simp
  have hlen : h1.length = h.length := hh.len.symm
  have hcase : ∀ {b : Nat} {B : Blk}, (h1 ++ [some ⟨e, []⟩])[b]? = some (some B) → ∃ C, (h ++ [some ⟨e, []⟩])[b]? = some (some C) ∧ C.e = B.e ∧ V.les (fun b => Nat.beq b h.length) C.cells B.cells ∧ B.cells.all V.one = true := by
    intro b B hb
    rcases get_snoc hb with hb | ⟨hbl, hB⟩
    · obtain ⟨C, c1, c2, c3, c4⟩ := hh.get hb
      exact ⟨C, get_snoc_old c1, c2, c3, c4⟩
    · injection hB with hB
      subst hB
      exact ⟨⟨e, []⟩, by rw [hbl, hlen]; simp, rfl, V.les_refl _ _, rfl⟩
  have hlive' : ∀ g, Live (M ++ [none]) (h1 ++ [some ⟨e, []⟩]) g → Live (M ++ [none]) (h ++ [some ⟨e, []⟩]) g := by
    rintro g ⟨b, B, hb, hm⟩
    obtain ⟨C, c1, _⟩ := hcase hb
    exact ⟨b, C, c1, hm⟩
  have hlive : ∀ g, Live (M ++ [none]) (h1 ++ [some ⟨e, []⟩]) g → Live M h g := by
    rintro g hl
    obtain ⟨b, B, hb, hm⟩ := hlive' g hl
    rcases get_snoc hm with hm' | ⟨_, hm'⟩
    · rcases get_snoc hb with hb' | ⟨rfl, _⟩
      · exact ⟨b, B, hb', hm'⟩
      · have := (List.getElem?_eq_some_iff.1 hm').1; omega
    · cases hm'
  refine ⟨M ++ [none], by rw [List.take_append_of_le_length hN], ⟨⟨by simp [hM, hlen], R.hr.alt, ?_, ?_, R.hr.glob.avoid fun g _ hx => hx.elim .inl (fun hl => .inr (hlive g hl))⟩, ?_, R.defers⟩, hlive⟩
  · intro b B hb
    obtain ⟨C, c1, c2, c3, c4⟩ := hcase hb
    refine ⟨List.all_eq_true.1 c4, ?_⟩
    have hl := V.les_length c3
    rcases (G.hr.blk b C c1).2 with ⟨hn, hc0⟩ | ⟨g, cs, hg, hA, hw, hle, hcs⟩
    · exact .inl ⟨hn, List.eq_nil_of_length_eq_zero (by rw [← hl, hc0]; rfl)⟩
    · refine .inr ⟨g, cs, hg, hA, by rw [← c2, ← hl]; exact hw, by rw [← hl]; exact hle, ?_⟩
      rw [← hl]
      exact (V.les_sound hvn _ _ _ c3 hcs).avoid (fun g _ hx => hx.elim .inl (fun hl => .inr (hlive' g hl)))
  · intro b b' B B' g hb hb' hm hm'
    obtain ⟨C, c1, _⟩ := hcase hb
    obtain ⟨C', c1', _⟩ := hcase hb'
    exact G.hr.inj b b' C C' g c1 c1' hm hm'
  · exact mkF_val R.sr (fun t y hy => by
      obtain ⟨x, hx, hl⟩ := hf.get hy
      exact ⟨x, hx, fun v hv => (V.le_sound hvn _ _ _ hl (G.keep hv)).avoid (fun g _ hx => hx.elim .inl (fun hl => .inr (hlive' g hl)))⟩)
theorem Ghost.trans {N : Nat} {s s1 s2 : List V} {h h1 h2 : Hp} (a : Ghost N s h s1 h1) (b : Ghost N s1 h1 s2 h2) : Ghost N s h s2 h2 := by
  intro A M ac w hN R
  obtain ⟨M1, e1, R1, l1⟩ := a A M ac w hN R
  have hN1 : N ≤ M1.length := by
    have := congrArg List.length e1
    simp only [List.length_take] at this; omega
  obtain ⟨M2, e2, R2, l2⟩ := b A M1 ac w hN1 R1
  exact ⟨M2, e2.trans e1, R2, fun g hg => l1 g (l2 g hg)⟩
end Go.Vm
