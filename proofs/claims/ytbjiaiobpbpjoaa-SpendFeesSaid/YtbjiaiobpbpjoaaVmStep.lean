import Derived.Test.YtbjiaiobpbpjoaaVmMem
set_option linter.unusedSimpArgs false
set_option linter.unusedVariables false
namespace Go.Vm
open Go

theorem splice_length {α : Type} (l : List α) (off : Nat) (vs : List α) (h : off + vs.length ≤ l.length) : (splice l off vs).length = l.length := by
  unfold splice; simp; omega
theorem splice_take {α : Type} (l : List α) (off n : Nat) (vs : List α) (h : off + vs.length ≤ n) (hn : n ≤ l.length) : (splice l off vs).take n = splice (l.take n) off vs := by
  unfold splice
  rw [List.take_append, List.take_append, List.take_take, List.take_take]
  have h1 : (List.take off l ++ vs).length = off + vs.length := by simp; omega
  rw [List.take_of_length_le (l := vs) (by simp; omega), h1, Nat.min_eq_left (by omega : off ≤ n), Nat.min_eq_right (by omega : off ≤ n)]
  congr 1
  rw [List.take_drop]
  congr 2
  omega
section
variable {X : Nat → Prop} {M : List (Option Nat)} {w : World}
theorem VCells.splice {cs ds : List V} {vs us : List Value} (h : VCells X M w cs vs) (k : VCells X M w ds us) (off : Nat) : VCells X M w (splice cs off ds) (splice vs off us) := by
  unfold Vm.splice
  rw [k.len]
  exact ((h.take off).append k).append (h.drop _)
end

/-- One block is written anew, its shape kept. -/
theorem Ext.setBlock {S : Nat → Prop} {w : World} {g : Nat} {cs cs' : Array Value} {e : TypeId} {f : Nat × Nat} (h : w.heap[g]? = some (.cells cs e f)) (hs : cs'.size = cs.size) (hS : S g) :
    Ext S w { w with heap := w.heap.setIfInBounds g (.cells cs' e f) } := by
  have hg : g < w.heap.size := (Array.getElem?_eq_some_iff.1 h).1
  refine ⟨rfl, rfl, rfl, by simp, fun k hk hn => ?_, fun k sh hsh => ?_, fun k hk hsh => ?_⟩
  · show (w.heap.setIfInBounds g _)[k]? = _
    rw [Array.getElem?_setIfInBounds_ne (by rintro rfl; exact hn hS)]
  · unfold World.shape? at *
    show (match (w.heap.setIfInBounds g (.cells cs' e f))[k]? with | some (.cells c elem _) => some (elem, c.size) | _ => none) = some sh
    by_cases hk : g = k
    · subst hk
      rw [Array.getElem?_setIfInBounds_self_of_lt hg]
      rw [h] at hsh
      simpa [hs] using hsh
    · rw [Array.getElem?_setIfInBounds_ne hk]; exact hsh
  · unfold World.shape? at *
    show (match (w.heap.setIfInBounds g (.cells cs' e f))[k]? with | some (.cells c elem _) => some (elem, c.size) | _ => none) = none
    by_cases hk : g = k
    · subst hk
      rw [h] at hsh
      cases hsh
    · rw [Array.getElem?_setIfInBounds_ne hk]; exact hsh

theorem get_set {α : Type} {l : List α} {b i : Nat} {x y : α} (h : (l.set b x)[i]? = some y) : (i = b ∧ y = x) ∨ (i ≠ b ∧ l[i]? = some y) := by
  by_cases hi : i = b
  · subst hi
    rcases Nat.lt_or_ge i l.length with hl | hl
    · rw [List.getElem?_set_self hl] at h; injection h with h; exact .inl ⟨rfl, h.symm⟩
    · rw [List.getElem?_eq_none (by simpa using hl)] at h; cases h
  · rw [List.getElem?_set_ne (Ne.symm hi)] at h; exact .inr ⟨hi, h⟩

theorem live_set {M : List (Option Nat)} {h : Hp} {b : Nat} {B B' : Blk} (hb : h[b]? = some (some B)) {g : Nat} (hl : Live M (h.set b (some B')) g) : Live M h g := by
  obtain ⟨i, C, hi, hm⟩ := hl
  rcases get_set hi with ⟨rfl, _⟩ | ⟨_, hi'⟩
  · exact ⟨i, B, hb, hm⟩
  · exact ⟨i, C, hi', hm⟩

/-- A store into a live block. -/
theorem Grow.store {P : Program} {A : Nat → Prop} {M : List (Option Nat)} {h : Hp} {w : World} (H : HR A M h w) {b : Nat} {B : Blk} (hb : h[b]? = some (some B)) {off : Nat} {news : List V} {vs : List Value}
    (hoff : off + news.length ≤ B.cells.length) (hc : VCells (Xs A M h) M w news vs) (h1 : ∀ v ∈ vs, v.oneCell' = true) {g : Nat} (hg : M[b]? = some (some g)) {sh : TypeId × Nat} (hs : w.shape? g = some sh) (hone : ∀ c ∈ news, c.one = true) :
    ∃ w', (storeCells ⟨g, off, none⟩ vs).run P w = .ok () w' ∧ Grow A M h w M (h.set b (some ⟨B.e, Vm.splice B.cells off news⟩)) w' := by
  obtain ⟨hB1, ⟨hn, _⟩ | ⟨g', cs, hg', hA, hh, hle, hcs⟩⟩ := H.blk b B hb
  · rw [hg] at hn; cases hn
  rw [hg] at hg'; injection hg' with hg'; injection hg' with hg'; subst hg'
  have hlen := hc.len
  obtain ⟨f, hf, hh⟩ := hh.inCells hs
  refine ⟨_, run_storeCells hf vs off 0 w cs rfl hh h1 (by omega), ?_⟩
  simp only [Nat.add_zero]
  have hsz : (Vm.splice cs.toList off vs).toArray.size = cs.size := by
    simp only [List.size_toArray]; rw [splice_length _ _ _ (by simp; omega)]; simp
  have hE : Ext (Live M h) w { w with heap := w.heap.setIfInBounds g (.cells (Vm.splice cs.toList off vs).toArray B.e f) } := Ext.setBlock hh hsz ⟨b, B, hb, hg⟩
  have hlive : ∀ k, k < w.heap.size → Live M (h.set b (some ⟨B.e, Vm.splice B.cells off news⟩)) k → Live M h k := fun k _ hl => live_set hb hl
  have keep : ∀ cs us, VCells (Xs A M h) M w cs us → VCells (Xs A M (h.set b (some ⟨B.e, Vm.splice B.cells off news⟩))) M _ cs us :=
    fun cs us hk => VCells.ext hE (List.prefix_refl _) (fun _ _ hl => .inr hl) (fun k hk hx => hx.elim .inl (fun hl => .inr (hlive k hk hl))) cs us hk
  have hgs : g < w.heap.size := (Array.getElem?_eq_some_iff.1 hh).1
  refine ⟨List.prefix_refl _, ⟨by simp [H.len], fun k hk => by simpa using H.alt k hk, ?_, ?_, H.glob.grow hE hlive⟩, hE, hlive⟩
  · intro i C hi
    rcases get_set hi with ⟨rfl, hC⟩ | ⟨hne, hi'⟩
    · injection hC with hC
      subst hC
      refine ⟨?_, .inr ⟨g, (Vm.splice cs.toList off vs).toArray, hg, hA, .inl ⟨f, by rw [hsz]; exact hf, by simp [hgs]⟩, ?_, ?_⟩⟩
      · intro c hc'
        simp only [Vm.splice, List.mem_append] at hc'
        rcases hc' with (hc' | hc') | hc'
        · exact hB1 c (List.mem_of_mem_take hc')
        · exact hone c hc'
        · exact hB1 c (List.mem_of_mem_drop hc')
      · rw [hsz]; simp only; rw [splice_length _ _ _ hoff]; exact hle
      · have e1 : ((Vm.splice cs.toList off vs).toArray.toList.take (Vm.splice B.cells off news).length) = Vm.splice (cs.toList.take B.cells.length) off vs := by
          rw [splice_length _ _ _ hoff]
          simp only
          exact splice_take _ _ _ _ (by omega) (by simpa using hle)
        rw [e1]
        exact keep _ _ (hcs.splice hc off)
    · obtain ⟨h0, hn | ⟨k, ds, hk, hA', hh', hle', hds⟩⟩ := H.blk i C hi'
      · exact ⟨h0, .inl hn⟩
      refine ⟨h0, .inr ⟨k, ds, hk, hA', ?_, hle', keep _ _ hds⟩⟩
      have hkg : k ≠ g := by rintro rfl; exact hne (H.inj i b C B k hi' hb hk hg)
      refine hh'.to ?_
      show (w.heap.setIfInBounds g _)[k]? = _
      rw [Array.getElem?_setIfInBounds_ne (Ne.symm hkg)]
  · intro i j C D k hi hj mi mj
    rcases get_set hi with ⟨rfl, _⟩ | ⟨_, hi'⟩ <;> rcases get_set hj with ⟨rfl, _⟩ | ⟨_, hj'⟩
    · rfl
    · exact H.inj i j B D k hb hj' mi mj
    · exact H.inj i j C B k hi' hb mi mj
    · exact H.inj i j C D k hi' hj' mi mj

/-- A block is given up. -/
theorem HR.kill {A : Nat → Prop} {M : List (Option Nat)} {h : Hp} {w : World} (H : HR A M h w) (b : Nat) : HR A M (h.set b none) w := by
  have hl : ∀ g, Live M (h.set b none) g → Live M h g := by
    rintro g ⟨i, C, hi, hm⟩
    rcases get_set hi with ⟨_, hC⟩ | ⟨_, hi'⟩
    · cases hC
    · exact ⟨i, C, hi', hm⟩
  refine ⟨by simp [H.len], H.alt, fun i C hi => ?_, fun i j C D k hi hj mi mj => ?_, H.glob.avoid fun g _ hx => hx.elim .inl (fun h' => .inr (hl g h'))⟩
  · rcases get_set hi with ⟨_, hC⟩ | ⟨_, hi'⟩
    · cases hC
    · obtain ⟨h0, hn | ⟨k, ds, hk, hA', hh', hle', hds⟩⟩ := H.blk i C hi'
      · exact ⟨h0, .inl hn⟩
      exact ⟨h0, .inr ⟨k, ds, hk, hA', hh', hle', VCells.ext (Ext.refl (fun _ => False) w) (List.prefix_refl _) (fun _ _ h => h.elim) (fun k hk hx => hx.elim .inl (fun h' => .inr (hl k h'))) _ _ hds⟩⟩
  · rcases get_set hi with ⟨_, hC⟩ | ⟨_, hi'⟩
    · cases hC
    · rcases get_set hj with ⟨_, hC⟩ | ⟨_, hj'⟩
      · cases hC
      · exact H.inj i j C D k hi' hj' mi mj
theorem Grow.kill {A : Nat → Prop} {M : List (Option Nat)} {h : Hp} {w : World} (H : HR A M h w) (b : Nat) : Grow A M h w M (h.set b none) w :=
  ⟨List.prefix_refl _, H.kill b, Ext.refl _ _, fun g _ hl => by
    obtain ⟨i, C, hi, hm⟩ := hl
    rcases get_set hi with ⟨_, hC⟩ | ⟨_, hi'⟩
    · cases hC
    · exact ⟨i, C, hi', hm⟩⟩
end Go.Vm
