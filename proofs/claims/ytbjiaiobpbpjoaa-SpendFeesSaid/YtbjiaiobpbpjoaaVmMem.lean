import Derived.Test.YtbjiaiobpbpjoaaVmOps
set_option linter.unusedSimpArgs false
set_option linter.unusedVariables false
namespace Go.Vm
open Go


section
variable {X : Nat → Prop} {M : List (Option Nat)} {w : World}
theorem VR.oneCell {x : V} {v : Value} (h : VR X M w x v) (hx : x.one = true) : v.oneCell' = true := by
  cases x <;> simp [V.one] at hx
  case sc c => unfold VR at h; subst h; exact hx
  case row nil k es => unfold VR at h; obtain ⟨a, cap, rfl, _⟩ := h; rfl
  case ptr b off => unfold VR at h; obtain ⟨g, sh, _, rfl, _⟩ := h; rfl
  case mp b => unfold VR at h; obtain ⟨g, _, rfl, _⟩ := h; rfl
  case sl b off n k ag => unfold VR at h; rcases h with ⟨_, rfl, _⟩ | ⟨g, cap, e, sz, _, rfl, _⟩ <;> rfl
  case eptr es i off => unfold VR at h; obtain ⟨ad, k, rfl, _⟩ := h; rfl
theorem cells_of_oneCell {v : Value} (h : v.oneCell' = true) : v.cells = #[v] := by cases v <;> first | rfl | simp [Value.oneCell'] at h
theorem VCells.oneCell {cs : List V} {vs : List Value} (h : VCells X M w cs vs) (hx : cs.all V.one = true) : ∀ v ∈ vs, v.oneCell' = true := by
  intro v hv
  obtain ⟨i, hi, rfl⟩ := List.mem_iff_getElem.1 hv
  have hc : i < cs.length := by rw [h.len]; exact hi
  obtain ⟨u, hu, hr⟩ := h.get (List.getElem?_eq_getElem hc)
  rw [List.getElem?_eq_getElem hi] at hu
  injection hu with hu
  rw [hu]
  exact hr.oneCell (List.all_eq_true.1 hx _ (List.getElem_mem hc))
theorem VR.cells' {x : V} {v : Value} (h : VR X M w x v) (hx : x.flatOk = true) : VCells X M w x.cells v.cells.toList ∧ ∀ u ∈ v.cells.toList, u.oneCell' = true := by
  have key : VCells X M w x.cells v.cells.toList := by
    cases x with
    | agg cs => unfold VR at h; obtain ⟨vs, rfl, hc⟩ := h; simpa [V.cells, Value.cells] using hc
    | any => simp [V.flatOk, V.cells, V.one] at hx
    | tup cs => simp [V.flatOk, V.cells, V.one] at hx
    | sc c => rw [cells_of_oneCell (h.oneCell (by simpa [V.flatOk, V.cells] using hx))]; simp only [V.cells]; unfold VCells; exact ⟨v, [], rfl, h, by unfold VCells; rfl⟩
    | row _ _ _ => rw [cells_of_oneCell (h.oneCell rfl)]; simp only [V.cells]; unfold VCells; exact ⟨v, [], rfl, h, by unfold VCells; rfl⟩
    | mp _ => rw [cells_of_oneCell (h.oneCell rfl)]; simp only [V.cells]; unfold VCells; exact ⟨v, [], rfl, h, by unfold VCells; rfl⟩
    | ptr _ _ => rw [cells_of_oneCell (h.oneCell rfl)]; simp only [V.cells]; unfold VCells; exact ⟨v, [], rfl, h, by unfold VCells; rfl⟩
    | sl _ _ _ _ _ => rw [cells_of_oneCell (h.oneCell rfl)]; simp only [V.cells]; unfold VCells; exact ⟨v, [], rfl, h, by unfold VCells; rfl⟩
    | eptr _ _ _ => rw [cells_of_oneCell (h.oneCell rfl)]; simp only [V.cells]; unfold VCells; exact ⟨v, [], rfl, h, by unfold VCells; rfl⟩
  exact ⟨key, key.oneCell hx⟩
end

/-! ### A new block -/
theorem shape_push {w : World} {o : Obj} {g : Nat} {sh : TypeId × Nat} (h : w.shape? g = some sh) : (w.alloc o).shape? g = some sh := by
  have hg : g < w.heap.size := by
    rcases Nat.lt_or_ge g w.heap.size with h' | h'
    · exact h'
    · simp [World.shape?, Array.getElem?_eq_none h'] at h
  have : (w.alloc o).heap[g]? = w.heap[g]? := RowKit.Below.heap_alloc w o g hg
  unfold World.shape? at *
  rw [this]; exact h
theorem shape_new (w : World) (cs : Array Value) (e : TypeId) : (w.alloc (.cells cs e)).shape? w.heap.size = some (e, cs.size) := by
  unfold World.shape?; rw [heap_alloc_new w _]
theorem Ext.alloc (S : Nat → Prop) (w : World) (o : Obj) : Ext S w (w.alloc o) :=
  ⟨rfl, rfl, rfl, by simp, fun g hg _ => RowKit.Below.heap_alloc w o g hg, fun _ _ h => shape_push h, fun g hg h => by unfold World.shape? at *; rw [show (w.alloc o).heap[g]? = w.heap[g]? from RowKit.Below.heap_alloc w o g hg]; exact h⟩
theorem Ext.drew (S : Nat → Prop) (w : World) : Ext S w w.drew := ⟨rfl, rfl, rfl, Nat.le_refl _, fun _ _ _ => rfl, fun _ _ h => h, fun _ _ h => h⟩

theorem HR.drew {A : Nat → Prop} {M : List (Option Nat)} {h : Hp} {w : World} (H : HR A M h w) : HR A M h w.drew :=
  ⟨H.len, H.alt, fun b B hb => by
    obtain ⟨h0, hn | ⟨g, cs, h1, h2, h3, h4, h5⟩⟩ := H.blk b B hb
    · exact ⟨h0, .inl hn⟩
    · exact ⟨h0, .inr ⟨g, cs, h1, h2, h3, h4, VCells.ext (Ext.drew (fun _ => False) w) (List.prefix_refl _) (fun _ _ h => h.elim) (fun _ _ h => h) _ _ h5⟩⟩, H.inj, H.glob.ext (Ext.drew (fun _ => False) w) (fun _ _ h => h.elim) (fun _ _ h => h)⟩
theorem Grow.drew {A : Nat → Prop} {M : List (Option Nat)} {h : Hp} {w : World} (H : HR A M h w) : Grow A M h w M h w.drew :=
  ⟨List.prefix_refl _, H.drew, Ext.drew _ _, fun _ _ h => h⟩

theorem get_snoc_old {α : Type} {l : List α} {x : α} {b : Nat} {y : α} (h : l[b]? = some y) : (l ++ [x])[b]? = some y := by
  rw [List.getElem?_append_left (List.getElem?_eq_some_iff.1 h).1]; exact h
theorem get_snoc {α : Type} {l : List α} {x : α} {b : Nat} {y : α} (h : (l ++ [x])[b]? = some y) : l[b]? = some y ∨ (b = l.length ∧ y = x) := by
  rcases Nat.lt_or_ge b l.length with hl | hl
  · rw [List.getElem?_append_left hl] at h; exact .inl h
  · rw [List.getElem?_append_right hl] at h
    rcases Nat.eq_or_lt_of_le hl with he | he
    · rw [← he] at h; simp at h; exact .inr ⟨he.symm, h.symm⟩
    · rw [List.getElem?_eq_none (by simp; omega)] at h; cases h

theorem get_snocM {M : List (Option Nat)} {s b g : Nat} (h : (M ++ [some s])[b]? = some (some g)) : M[b]? = some (some g) ∨ (b = M.length ∧ g = s) := by
  rcases get_snoc h with h | ⟨h, h'⟩
  · exact .inl h
  · injection h' with h'; exact .inr ⟨h, h'⟩
theorem HR.mlt {A : Nat → Prop} {M : List (Option Nat)} {h : Hp} {w : World} (H : HR A M h w) {b g : Nat} {B : Blk} (hb : h[b]? = some (some B)) (hm : M[b]? = some (some g)) : g < w.heap.size := H.lt (.inr ⟨b, B, hb, hm⟩)

theorem Grow.allocF {A : Nat → Prop} {M : List (Option Nat)} {h : Hp} {w : World} (H : HR A M h w) (e : TypeId) (cells : List V) (vs : Array Value) (hle : cells.length ≤ vs.size) (hc : VCells (Xs A M h) M w cells (vs.toList.take cells.length)) (h1 : ∀ c ∈ cells, c.one = true) (f : Nat × Nat) (hf : f = (0, 0) ∨ f = (vs.size, vs.size + 1)) :
    Grow A M h w (M ++ [some w.heap.size]) (h ++ [some ⟨e, cells⟩]) (w.alloc (.cells vs e f)) := by
  have hE : Ext (Live M h) w (w.alloc (.cells vs e f)) := Ext.alloc _ _ _
  have hlive : ∀ g, g < w.heap.size → Live (M ++ [some w.heap.size]) (h ++ [some ⟨e, cells⟩]) g → Live M h g := by
    rintro g hg ⟨b, B, hb, hm⟩
    rcases get_snoc hm with hm' | ⟨_, hm'⟩
    · rcases get_snoc hb with hb' | ⟨rfl, _⟩
      · exact ⟨b, B, hb', hm'⟩
      · have := (List.getElem?_eq_some_iff.1 hm').1; rw [H.len] at this; omega
    · injection hm'; omega
  have keep : ∀ cs us, VCells (Xs A M h) M w cs us → VCells (Xs A (M ++ [some w.heap.size]) (h ++ [some ⟨e, cells⟩])) (M ++ [some w.heap.size]) (w.alloc (.cells vs e f)) cs us :=
    fun cs us hh => VCells.ext hE ⟨_, rfl⟩ (fun _ _ hl => .inr hl) (fun g hg hx => hx.elim .inl (fun hl => .inr (hlive g hg hl))) cs us hh
  refine ⟨⟨_, rfl⟩, ⟨by simp [H.len], fun g hg => by have := H.alt g hg; simp; omega, ?_, ?_, H.glob.grow hE hlive⟩, hE, hlive⟩
  · intro b B hb
    rcases get_snoc hb with hb' | ⟨hbl, hB⟩
    · obtain ⟨h0, ⟨hn, hn'⟩ | ⟨g, cs, h1, h2, h3, h4, h5⟩⟩ := H.blk b B hb'
      · exact ⟨h0, .inl ⟨get_snoc_old hn, hn'⟩⟩
      · exact ⟨h0, .inr ⟨g, cs, get_snoc_old h1, h2, h3.to (RowKit.Below.heap_alloc w _ g (H.mlt hb' h1)), h4, keep _ _ h5⟩⟩
    · injection hB with hB
      subst hB
      refine ⟨h1, .inr ⟨w.heap.size, vs, by rw [hbl, ← H.len]; simp, fun ha => Nat.lt_irrefl _ (H.alt _ ha), (.inl ⟨f, hf, heap_alloc_new w _⟩), hle, keep _ _ hc⟩⟩
  · intro b b' B B' g hb hb' hm hm'
    rcases get_snoc hb with h1 | ⟨h1, _⟩ <;> rcases get_snoc hb' with h2 | ⟨h2, _⟩ <;> rcases get_snocM hm with m1 | ⟨m1, m1'⟩ <;> rcases get_snocM hm' with m2 | ⟨m2, m2'⟩
    · exact H.inj b b' B B' g h1 h2 m1 m2
    · have := H.mlt h1 m1; omega
    · have := H.mlt h2 m2; omega
    · have := (List.getElem?_eq_some_iff.1 h1).1; rw [m1, H.len] at this; omega
    all_goals first
      | (have := (List.getElem?_eq_some_iff.1 m2).1; rw [H.len] at this; omega)
      | (have := (List.getElem?_eq_some_iff.1 m1).1; rw [H.len] at this; omega)
      | (have := H.mlt h1 m1; omega)
      | (have := H.mlt h2 m2; omega)
      | omega

/-! ### A store -/
def splice {α : Type} (l : List α) (off : Nat) (vs : List α) : List α := l.take off ++ vs ++ l.drop (off + vs.length)
theorem Grow.alloc {A : Nat → Prop} {M : List (Option Nat)} {h : Hp} {w : World} (H : HR A M h w) (e : TypeId) (cells : List V) (vs : Array Value) (hle : cells.length ≤ vs.size) (hc : VCells (Xs A M h) M w cells (vs.toList.take cells.length)) (h1 : ∀ c ∈ cells, c.one = true) :
    Grow A M h w (M ++ [some w.heap.size]) (h ++ [some ⟨e, cells⟩]) (w.alloc (.cells vs e)) := Grow.allocF H e cells vs hle hc h1 (0, 0) (.inl rfl)

theorem splice_set {α : Type} (l : List α) (k : Nat) (v : α) (vs : List α) (hk : k < l.length) : splice (l.set k v) (k + 1) vs = splice l k (v :: vs) := by
  unfold splice
  have h1 : (l.set k v).take (k + 1) = l.take k ++ [v] := by
    rw [List.take_succ_eq_append_getElem (by simpa using hk)]
    simp [List.take_set_of_le]
  have h2 : (l.set k v).drop (k + 1 + vs.length) = l.drop (k + (v :: vs).length) := by
    rw [List.drop_set_of_lt (by omega)]
    congr 1
    simp; omega
  rw [h1, h2]
  simp

theorem heap_setCell_at {w : World} {g off : Nat} {cs : Array Value} {e : TypeId} {f : Nat × Nat} (h : w.heap[g]? = some (.cells cs e f)) (v : Value) :
    w.setCell ⟨g, off, none⟩ v = { w with heap := w.heap.setIfInBounds g (.cells (cs.setIfInBounds off v) e f) } := by
  unfold World.setCell
  congr 1
  apply Array.ext'
  apply List.ext_getElem?
  intro i
  have hg : g < w.heap.size := (Array.getElem?_eq_some_iff.1 h).1
  simp only [Array.getElem?_toList, Array.getElem?_modify, Array.getElem?_setIfInBounds]
  by_cases hi : g = i
  · subst hi; rw [h]; simp [hg]
  · simp [hi]

theorem run_storeCells {P : Program} {g : Nat} {e : TypeId} {f : Nat × Nat} {sz : Nat} (hf : f = (0, 0) ∨ f = (sz, sz + 1)) : ∀ (vs : List Value) (off i : Nat) (w : World) (cs : Array Value), cs.size = sz → w.heap[g]? = some (.cells cs e f) → (∀ v ∈ vs, v.oneCell' = true) →
    off + i + vs.length ≤ cs.size →
    (storeCells ⟨g, off, none⟩ vs i).run P w = .ok () { w with heap := w.heap.setIfInBounds g (.cells (splice cs.toList (off + i) vs).toArray e f) }
  | [], off, i, w, cs, _, h, _, _ => by
    simp only [storeCells, splice, List.append_nil, List.length_nil, Nat.add_zero, List.take_append_drop]
    show Result.ok () w = _
    congr 1
    have hg : g < w.heap.size := (Array.getElem?_eq_some_iff.1 h).1
    have : w.heap.setIfInBounds g (.cells cs.toList.toArray e f) = w.heap := by
      apply Array.ext'
      apply List.ext_getElem?
      intro j
      simp only [Array.getElem?_toList, Array.getElem?_setIfInBounds]
      by_cases hj : g = j
      · subst hj; rw [h]; simp [hg]
      · simp [hj]
    rw [this]
  | v :: vs, off, i, w, cs, hsz, h, h1, hs => by
    have hv := h1 v (by simp)
    have hlt : off + i < cs.size := by simp at hs; omega
    have hadd : (Addr.mk g off none).add i = ⟨g, off + i, none⟩ := by unfold Addr.add; split <;> simp_all
    have hcell : w.cell? ⟨g, off + i, none⟩ = some cs[off + i] := by simp [World.cell?, h, hlt]
    have hfz : w.frozen? ⟨g, off + i, none⟩ = false := by
      unfold World.frozen?; rw [h]; exact fz_free hf (show off + i < sz by omega)
    have hw := heap_setCell_at (off := off + i) h v
    have hg : g < w.heap.size := (Array.getElem?_eq_some_iff.1 h).1
    have ih := run_storeCells (P := P) (g := g) (e := e) hf vs off (i + 1) (w.setCell ⟨g, off + i, none⟩ v) (cs.setIfInBounds (off + i) v) (by simpa using hsz) (by rw [hw]; simp [hg]) (fun u hu => h1 u (by simp [hu])) (by simp at hs ⊢; omega)
    have step : (storeCells ⟨g, off, none⟩ (v :: vs) i).run P w = (storeCells ⟨g, off, none⟩ vs (i + 1)).run P (w.setCell ⟨g, off + i, none⟩ v) := by
      simp only [storeCells, hadd]
      show Sem.run P (Sem.bind (Sem.store .plain ⟨g, off + i, none⟩ v (Sem.pure ())) _) w = _
      cases v <;> first | (simp only [Sem.bind, Sem.run, hcell, hfz]; rfl) | simp [Value.oneCell'] at hv
    rw [step, ih, hw]
    congr 1
    simp only [World.mk.injEq, and_true, Array.setIfInBounds_setIfInBounds]
    congr 2
    apply congrArg List.toArray
    rw [Array.toList_setIfInBounds]
    exact splice_set _ (off + i) v vs (by simpa using hlt)
end Go.Vm
