import Derived.Test.YtbjiaiobpbpjoaaVmBase
set_option linter.unusedSimpArgs false
set_option linter.unusedVariables false
namespace Go.Vm
open Go

structure TI where
  desc : TypeDesc
  size : Nat
  bytes : Nat
  zero : Value
def tiOf (P : Program) (t : TypeId) : Option TI :=
  match P.underlying t, P.info? t with
  | some d, some i => match i.zero with
    | some z => some ⟨d, i.size, i.bytes, z⟩
    | none => none
  | _, _ => none
theorem tiOf_spec {P : Program} {t : TypeId} {d : TI} (h : tiOf P t = some d) : P.underlying t = some d.desc ∧ ∃ i, P.info? t = some i ∧ i.size = d.size ∧ i.bytes = d.bytes ∧ i.zero = some d.zero := by
  unfold tiOf at h
  split at h
  · rename_i d' i h1 h2
    split at h
    · rename_i z hz
      injection h with h
      subst h
      exact ⟨h1, i, h2, rfl, rfl, hz⟩
    · cases h
  · cases h
def isAggD : TypeDesc → Bool
  | .struct _ | .array _ _ => true
  | _ => false

section
variable {P : Program} {w : World} {t : TypeId} {d : TI}
theorem run_sizeOf (h : tiOf P t = some d) : (sizeOf t).run P w = .ok d.size w := by
  obtain ⟨_, i, hi, h1, _⟩ := tiOf_spec h
  simp [sizeOf, typeInfo, hi, h1]
theorem run_zero (h : tiOf P t = some d) : (zeroValue t).run P w = .ok d.zero w := by
  obtain ⟨_, i, hi, _, _, h3⟩ := tiOf_spec h
  simp [zeroValue, typeInfo, hi, h3]
theorem run_under (h : tiOf P t = some d) : (underlying t).run P w = .ok d.desc w := run_underlying (tiOf_spec h).1 w
theorem run_isAgg (h : tiOf P t = some d) : (isAgg t).run P w = .ok (isAggD d.desc) w := by
  unfold isAgg
  rw [Sem.run_bind, run_under h, Result.andThen_ok]
  cases d.desc <;> rfl
theorem run_loadCellsFrom (a : Addr) : ∀ (vs : List Value) (i : Nat) (acc : Array Value), (∀ j u, vs[j]? = some u → w.cell? (a.add (i + j)) = some u) →
    (loadCellsFrom a i vs.length acc).run P w = .ok (acc ++ vs.toArray) w
  | [], i, acc, _ => by simp [loadCellsFrom]
  | v :: vs, i, acc, h => by
    have h0 := h 0 v rfl
    have ih := run_loadCellsFrom a vs (i + 1) (acc.push v) (fun j u hu => by have := h (j + 1) u (by simpa using hu); rwa [show i + 1 + j = i + (j + 1) by omega])
    simp only [List.length_cons, loadCellsFrom, load]
    simp only [Nat.add_zero] at h0
    show (Sem.run P (Sem.bind (Sem.load .plain (a.add i) Sem.pure) _) w) = _
    simp only [Sem.bind, Sem.run, h0, ih]
    simp
theorem run_loadCells (a : Addr) (vs : List Value) (h : LiesAt w a vs.toArray) : (loadCells a vs.length).run P w = .ok vs.toArray w := by
  unfold loadCells
  rw [run_loadCellsFrom a vs 0 #[] (fun j u hu => by rw [Nat.zero_add]; exact h j u (by simpa using hu))]
  simp
end

def partV (P : Program) (t : TypeId) (cs : List V) : Option V :=
  match tiOf P t with
  | none => none
  | some d => if isAggD d.desc then (if d.size ≤ cs.length then some (.agg (cs.take d.size)) else none) else cs.head?

theorem LiesAt.take {w : World} {ad : Addr} {vs : List Value} (h : LiesAt w ad vs.toArray) (n : Nat) : LiesAt w ad (vs.take n).toArray := fun j u hu => by
  refine h j u ?_
  simp only [List.getElem?_toArray, List.getElem?_take] at hu ⊢
  split at hu
  · exact hu
  · cases hu
theorem LiesAt.drop {w : World} {ad : Addr} {vs : List Value} (h : LiesAt w ad vs.toArray) (n : Nat) : LiesAt w (ad.add n) (vs.drop n).toArray := fun j u hu => by
  rw [add_add]
  refine h _ u ?_
  simpa using hu

section
variable {X : Nat → Prop} {M : List (Option Nat)} {P : Program} {w : World} {t : TypeId}
theorem load_sound {ad : Addr} {cs : List V} {vs : List Value} {x : V} (hc : VCells X M w cs vs) (hl : LiesAt w ad vs.toArray) (hp : partV P t cs = some x) :
    ∃ v, (loadVar t ad).run P w = .ok v w ∧ VR X M w x v := by
  unfold partV at hp
  split at hp
  · cases hp
  · rename_i d hd
    unfold loadVar
    rw [Sem.run_bind, run_isAgg hd, Result.andThen_ok]
    split at hp
    · rename_i hag
      split at hp
      · rename_i hsz
        injection hp with hp
        subst hp
        have hlen : (vs.take d.size).length = d.size := by simp [← hc.len]; omega
        refine ⟨.agg (vs.take d.size).toArray, ?_, ?_⟩
        · simp only [hag, if_true]
          rw [Sem.run_bind, run_sizeOf hd, Result.andThen_ok, Sem.run_bind]
          have := run_loadCells (P := P) (w := w) ad (vs.take d.size) (hl.take _)
          rw [hlen] at this
          rw [this, Result.andThen_ok]
          rfl
        · unfold VR; exact ⟨_, rfl, hc.take _⟩
      · cases hp
    · rename_i hag
      rw [List.head?_eq_getElem?] at hp
      obtain ⟨v, hv, hr⟩ := hc.get hp
      refine ⟨v, ?_, hr⟩
      simp only [hag]
      have h0 := hl 0 v (by simpa using hv)
      have : ad.add 0 = ad := by simp [Addr.add]
      rw [this] at h0
      simp [load, Sem.run, h0]
theorem part_sound {cs : List V} {vs : List Value} {off : Nat} {x : V} (hc : VCells X M w cs vs) (hp : partV P t (cs.drop off) = some x) :
    ∃ v, (part t vs.toArray off).run P w = .ok v w ∧ VR X M w x v := by
  unfold partV at hp
  split at hp
  · cases hp
  · rename_i d hd
    unfold part
    rw [Sem.run_bind, run_isAgg hd, Result.andThen_ok]
    have hcd := hc.drop off
    split at hp
    · rename_i hag
      split at hp
      · rename_i hsz
        injection hp with hp
        subst hp
        refine ⟨.agg ((vs.drop off).take d.size).toArray, ?_, by unfold VR; exact ⟨_, rfl, hcd.take _⟩⟩
        simp only [hag, if_true]
        rw [Sem.run_bind, run_sizeOf hd, Result.andThen_ok]
        simp only [List.extract_toArray, List.extract_eq_drop_take']
        show Result.ok _ _ = _
        congr 2
        simp [List.take_drop]
      · cases hp
    · rename_i hag
      rw [List.head?_eq_getElem?] at hp
      obtain ⟨v, hv, hr⟩ := hcd.get hp
      refine ⟨v, ?_, hr⟩
      simp only [hag]
      have h0 : vs[off]? = some v := by simpa using hv
      simp [h0]
end
end Go.Vm
