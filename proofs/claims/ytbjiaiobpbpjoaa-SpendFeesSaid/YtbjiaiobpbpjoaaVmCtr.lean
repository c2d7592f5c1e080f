import Derived.Test.YtbjiaiobpbpjoaaVmRule
set_option linter.unusedSimpArgs false
set_option linter.unusedVariables false
namespace Go.Vm
open Go

section
variable {P : Program} {N n : Nat} {Q : Ex → List V → Hp → Prop} {h : Hp} {fr : List (Nat × V)}
theorem AB.cndT {c : Operand} {x y : Code} {t : Bool} (hc : evF n fr c = some (.sc (.bool t))) (ht : t = true) (h1 : AB P N x Q (mkF n fr) h) : AB P N (.cond c x y) Q (mkF n fr) h := AB.cnd hc (fun _ => h1) (fun hf => by rw [ht] at hf; cases hf)
theorem AB.cndF {c : Operand} {x y : Code} {t : Bool} (hc : evF n fr c = some (.sc (.bool t))) (ht : t = false) (h1 : AB P N y Q (mkF n fr) h) : AB P N (.cond c x y) Q (mkF n fr) h := AB.cnd hc (fun hf => by rw [ht] at hf; cases hf) (fun _ => h1)
end

section
variable {P : Program} {f : FuncId} {h hb hb' hs hs' : Hp} {xs args : List V} {r v : V}
theorem lendSet_nil (h : Hp) (o : Hp) : lendSet h [] o = h := by cases h <;> cases o <;> rfl
/-- A call that sees and leaves no local block. -/
theorem Fn.pure (hc : Fn P f [] xs r []) (hx : V.rns (sg [] h.length) xs = xs) (hr : r.rn (sg [] h.length) = r) : Fn P f h xs r h := by
  have := Fn.frame (hb := h) hc [] rfl (by simp) (by simp) (fun i b hi => by simp at hi)
  rw [hx, hr] at this
  simpa [lent, lendSet_nil, rnH] using this
/-- The blocks that are lent. -/
def Lend (σ : Nat → Nat) (hb : Hp) : List Nat → Hp → Prop
  | [], [] => True
  | b :: ρ, none :: hs => hb[b]? = some none ∧ Lend σ hb ρ hs
  | b :: ρ, some B :: hs => (∃ cs, hb[b]? = some (some ⟨B.e, cs⟩) ∧ V.rns σ B.cells = cs) ∧ Lend σ hb ρ hs
  | _, _ => False
theorem Lend.nil {σ : Nat → Nat} : Lend σ hb [] [] := trivial
theorem Lend.cons {σ : Nat → Nat} {b : Nat} {ρ : List Nat} {e : TypeId} {cs ds : List V} (h1 : hb[b]? = some (some ⟨e, ds⟩)) (h2 : V.rns σ cs = ds) (k : Lend σ hb ρ hs) : Lend σ hb (b :: ρ) (some ⟨e, cs⟩ :: hs) := ⟨⟨ds, h1, h2⟩, k⟩
theorem Lend.len {σ : Nat → Nat} : ∀ {ρ : List Nat} {hs : Hp}, Lend σ hb ρ hs → ρ.length = hs.length
  | [], [], _ => rfl
  | _ :: ρ, none :: hs, hh => by simp [Lend.len (ρ := ρ) hh.2]
  | _ :: ρ, some B :: hs, hh => by simp [Lend.len (ρ := ρ) hh.2]
  | [], _ :: _, hh => hh.elim
  | _ :: _, [], hh => hh.elim
theorem Lend.get {σ : Nat → Nat} : ∀ {ρ : List Nat} {hs : Hp}, Lend σ hb ρ hs → ∀ (i b : Nat), ρ[i]? = some b → hb[b]? = (rnH σ hs)[i]?
  | [], [], _, i, b, hi => by simp at hi
  | c :: ρ, none :: hs, hh, 0, b, hi => by simp at hi; subst hi; simpa [rnH] using hh.1
  | c :: ρ, none :: hs, hh, i + 1, b, hi => by
    have := Lend.get hh.2 i b (by simpa using hi)
    simpa [rnH] using this
  | c :: ρ, some B :: hs, hh, 0, b, hi => by
    simp at hi; subst hi
    obtain ⟨cs, h1, h2⟩ := hh.1
    rw [h1, ← h2]; simp [rnH, Blk.rn]
  | c :: ρ, some B :: hs, hh, i + 1, b, hi => by
    have := Lend.get hh.2 i b (by simpa using hi)
    simpa [rnH] using this
  | [], _ :: _, hh, _, _, _ => hh.elim
  | _ :: _, [], hh, _, _, _ => hh.elim
theorem Fn.lendB (hc : Fn P f hs args r hs') (ρ : List Nat) (hnd : ρ.Nodup) (hlt : ρ.all (fun b => Nat.blt b hb.length) = true) (hl : Lend (sg ρ hb.length) hb ρ hs) (hx : V.rns (sg ρ hb.length) args = xs) (hr : r.rn (sg ρ hb.length) = v) (hh : lent hb ρ hs' = hb') : Fn P f hb xs v hb' := by
  have := Fn.frame (hb := hb) hc ρ hl.len hnd (fun b hb' => by
    have h2 := List.all_eq_true.1 hlt b hb'
    exact Nat.le_of_ble_eq_true (n := b + 1) h2) hl.get
  rw [hx, hr, hh] at this
  exact this
theorem VCells_le {X : Nat → Prop} {M : List (Option Nat)} {w : World} {vs : List Value} (hl : V.les noN xs args) (hv : VCells X M w xs vs) : VCells X M w args vs := V.les_sound (fun _ hb => by cases hb) _ _ _ hl hv
/-- Less is asked of the arguments than is known. -/
theorem Fn.argsLe (hc : Fn P f h args r hb) (hl : V.les noN xs args) : Fn P f h xs r hb := fun A M w vs H hv => hc A M w vs H (VCells_le hl hv)
/-- A nil argument, handed over as a row of its own. -/
theorem Fn.virt {e : TypeId} (hc : Fn P f (h ++ [some ⟨e, []⟩]) args r hb) (hl : V.les (fun b => Nat.beq b h.length) xs args) : Fn P f h xs r hb := by
  intro A M w vs H hv
  have G := Grow.virt H e
  have hM := H.len
  have hvn : ∀ b, Nat.beq b h.length = true → (M ++ [none])[b]? = some none := fun b hb => by
    have := Nat.eq_of_beq_eq_true hb
    subst this
    rw [← hM]; simp
  have hv' : VCells (Xs A (M ++ [none]) (h ++ [some ⟨e, []⟩])) (M ++ [none]) w args vs := V.les_sound hvn _ _ _ hl (VCells.mk hv.len (fun i c v hc hv' => by
    obtain ⟨u, hu, hr⟩ := hv.get hc
    rw [hv'] at hu; injection hu with hu; subst hu
    exact G.keep hr))
  exact (hc A _ w vs G.hr hv').mono fun v w' ⟨M', G', hr⟩ => ⟨M', G.trans G', hr⟩
end
@[simp] theorem rns_eI {f : Nat → Nat} {k : IntKind} (l : List Int) : V.rns f (l.map (eI k)) = l.map (eI k) := rns_map (fun _ => rfl) l
@[simp] theorem rns_eB {f : Nat → Nat} (l : List Bool) : V.rns f (l.map eB) = l.map eB := rns_map (fun _ => rfl) l
@[simp] theorem rns_eS {f : Nat → Nat} (l : List ByteArray) : V.rns f (l.map eS) = l.map eS := rns_map (fun _ => rfl) l
@[simp] theorem rns_eL {α : Type} {f : Nat → Nat} {K : Nat} {E : α → V} (l : List (List α)) : V.rns f (l.map (eL K E)) = l.map (eL K E) := rns_map (fun _ => rfl) l
theorem all_map {α : Type} {E : α → V} (hE : ∀ x, (E x).one = true) (l : List α) : (l.map E).all V.one = true := by simp [List.all_eq_true, hE]
end Go.Vm
