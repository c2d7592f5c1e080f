import Derived.Test.YtbjiaiobpbpjoaaVmLift
set_option linter.unusedSimpArgs false
set_option linter.unusedVariables false
namespace Go.Vm
open Go

/-- No calls. -/
def Env.zero {P : Program} (hm : P.follows .mixedOrders = true) : Env P :=
  { O := fun _ _ _ => none, F := fun _ => false, ok := fun _ _ _ _ _ hh => (by cases hh), still := fun _ _ _ _ _ hf => (by cases hf), mixed := hm }
open Classical in
/-- One call, by its contract. -/
noncomputable def Env.one {P : Program} (hm : P.follows .mixedOrders = true) {f : FuncId} {h : Hp} {xs : List V} {r : V} {h' : Hp} (hc : Fn P f h xs r h') (g : FuncId → Bool) (hg : ∀ k, g k = true → h' = h) : Env P :=
  { O := fun k h1 xs1 => if k = f ∧ h1 = h ∧ xs1 = xs then some (r, h') else none
    F := g
    ok := fun k h1 xs1 r1 h2 hh => by
      dsimp only at hh
      split at hh
      · rename_i he
        obtain ⟨rfl, rfl, rfl⟩ := he
        simp only [Option.some.injEq, Prod.mk.injEq] at hh
        obtain ⟨rfl, rfl⟩ := hh
        exact hc
      · cases hh
    still := fun k h1 xs1 r1 h2 hk hh => by
      dsimp only at hh
      split at hh
      · rename_i he
        simp only [Option.some.injEq, Prod.mk.injEq] at hh
        rw [← hh.2, he.2.1]
        exact hg k hk
      · cases hh
    mixed := hm }
theorem Env.one_hit {P : Program} {hm : P.follows .mixedOrders = true} {f : FuncId} {h : Hp} {xs : List V} {r : V} {h' : Hp} {hc : Fn P f h xs r h'} {g : FuncId → Bool} {hg : ∀ k, g k = true → h' = h} {h1 : Hp} {xs1 : List V}
    {K : V × Hp → Prop} (eh : h1 = h) (ex : xs1 = xs) (hk : K (r, h')) : Then ((Env.one hm hc g hg).O f h1 xs1) K := by
  subst eh ex
  exact Then.mk (p := (r, h')) (by simp [Env.one]) hk
open Classical in
/-- Several calls of different functions. -/
noncomputable def Env.add {P : Program} (E : Env P) {f : FuncId} {h : Hp} {xs : List V} {r : V} {h' : Hp} (hc : Fn P f h xs r h') (g : FuncId → Bool) (hg : ∀ k, g k = true → h' = h) (hE : ∀ k, g k = true → E.F k = true) : Env P :=
  { O := fun k h1 xs1 => if k = f then (if h1 = h ∧ xs1 = xs then some (r, h') else none) else E.O k h1 xs1
    F := g
    ok := fun k h1 xs1 r1 h2 hh => by
      dsimp only at hh
      split at hh
      · rename_i he
        subst he
        split at hh
        · rename_i he
          obtain ⟨rfl, rfl⟩ := he
          simp only [Option.some.injEq, Prod.mk.injEq] at hh
          obtain ⟨rfl, rfl⟩ := hh
          exact hc
        · cases hh
      · exact E.ok k h1 xs1 r1 h2 hh
    still := fun k h1 xs1 r1 h2 hk hh => by
      dsimp only at hh
      split at hh
      · split at hh
        · rename_i he
          simp only [Option.some.injEq, Prod.mk.injEq] at hh
          rw [← hh.2, he.1]
          exact hg k hk
        · cases hh
      · exact E.still k h1 xs1 r1 h2 (hE k hk) hh
    mixed := E.mixed }
theorem Env.add_hit {P : Program} {E : Env P} {f : FuncId} {h : Hp} {xs : List V} {r : V} {h' : Hp} {hc : Fn P f h xs r h'} {g : FuncId → Bool} {hg : ∀ k, g k = true → h' = h} {hE : ∀ k, g k = true → E.F k = true} {h1 : Hp} {xs1 : List V}
    {K : V × Hp → Prop} (eh : h1 = h) (ex : xs1 = xs) (hk : K (r, h')) : Then ((E.add hc g hg hE).O f h1 xs1) K := by
  subst eh ex
  exact Then.mk (p := (r, h')) (by simp [Env.add]) hk
theorem Env.add_miss {P : Program} {E : Env P} {f k : FuncId} {h : Hp} {xs : List V} {r : V} {h' : Hp} {hc : Fn P f h xs r h'} {g : FuncId → Bool} {hg : ∀ k, g k = true → h' = h} {hE : ∀ k, g k = true → E.F k = true} {h1 : Hp} {xs1 : List V}
    {K : V × Hp → Prop} (hne : (k == f) = false) (hk : Then (E.O k h1 xs1) K) : Then ((E.add hc g hg hE).O k h1 xs1) K := by
  obtain ⟨p, hp, hk⟩ := hk.out
  have : k ≠ f := by simpa using hne
  exact Then.mk (p := p) (by simp [Env.add, this, hp]) hk
/-- All functions are still. -/
def allF : FuncId → Bool := fun _ => true
def noF : FuncId → Bool := fun _ => false
/-- A pure call with a flat result. -/
theorem PFn.flat {P : Program} {f : FuncId} {xs ys : List V} {r : V} {h : Hp} (hp : PFn P f ys r) (hx : xs.mapM (expV h) = some ys) (hr : flatV r = true) : Fn P f h xs r h := fn_flat hp hx hr
theorem expV_agg2 (h : Hp) (nil : Option Bool) (k : Nat) (es : List V) (c : Value) : expV h (.agg [.row nil k es, .sc c]) = some (.agg [.row nil k es, .sc c]) := rfl
theorem expV_sc (h : Hp) (c : Value) : expV h (.sc c) = some (.sc c) := rfl
theorem expV_row (h : Hp) (nil : Option Bool) (k : Nat) (es : List V) : expV h (.row nil k es) = some (.row nil k es) := rfl

/-- Some slots are forgotten. -/
def Wk : List V → List V → Prop
  | [], [] => True
  | a :: s, b :: t => (b = .any ∨ a = b) ∧ Wk s t
  | _, _ => False
theorem Wk.len : ∀ {s t : List V}, Wk s t → s.length = t.length
  | [], [], _ => rfl
  | a :: s, b :: t, h => by simp [Wk.len h.2]
  | [], _ :: _, h => h.elim
  | _ :: _, [], h => h.elim
theorem Wk.get : ∀ {s t : List V}, Wk s t → ∀ (i : Nat) (y : V), t[i]? = some y → y = .any ∨ s[i]? = some y
  | [], [], _, i, y, hy => by simp at hy
  | a :: s, b :: t, h, i, y, hy => by
    cases i with
    | zero =>
      simp at hy; subst hy
      rcases h.1 with h1 | h1
      · exact .inl h1
      · exact .inr (by simp [h1])
    | succ i => exact Wk.get h.2 i y (by simpa using hy)
  | [], _ :: _, h, _, _, _ => h.elim
  | _ :: _, [], h, _, _, _ => h.elim
theorem Wk.rel {A : Nat → Prop} {M : List (Option Nat)} {s t : List V} {h : Hp} {a : Act} {w : World} (hw : Wk s t) (R : Rel A M s h a w) : Rel A M t h a w :=
  ⟨R.hr, ⟨by rw [← hw.len]; exact R.sr.len, fun i x hx => by
    rcases hw.get i x hx with rfl | h1
    · unfold VR; trivial
    · exact R.sr.val i x h1⟩, R.defers⟩
theorem AW.weak {P : Program} {c : Code} {Q : Ex → List V → Hp → Prop} {s t : List V} {h : Hp} (hw : Wk s t) (hh : AW P c Q t h) : AW P c Q s h := fun A M a w R => hh A M a w (hw.rel R)

/-- A loop whose head is described by a parameter. -/
theorem AW.loopW {P : Program} {c : Code} {Q : Ex → List V → Hp → Prop} {s : List V} {h : Hp} {α : Type} (Inv : α → Prop) (S : α → List V) (H : α → Hp) (μ : α → Nat) (x0 : α) (hi : Inv x0) (hs : Wk s (S x0)) (hh : h = H x0)
    (round : ∀ x, Inv x → AW P c (Ex.then (fun s' h' => ∃ y, Inv y ∧ μ y < μ x ∧ Wk s' (S y) ∧ h' = H y) Q) (S x) (H x)) : AW P (.loop c) Q s h := by
  refine AW.loop (fun n s h => ∃ x, Inv x ∧ μ x = n ∧ Wk s (S x) ∧ h = H x) ⟨x0, hi, rfl, hs, hh⟩ ?_
  rintro n s1 h1 ⟨x, hx, rfl, hw, rfl⟩
  refine AW.weak hw ((round x hx).mono fun e s2 h2 hq => ?_)
  cases e with
  | normal => obtain ⟨y, h1, h2, h3, h4⟩ := hq; exact ⟨μ y, h2, y, h1, rfl, h3, h4⟩
  | exit id => exact hq
  | ret => exact hq

section
variable {P : Program} {K : List V → Hp → Prop} {Q : Ex → List V → Hp → Prop} {s : List V} {h : Hp} {id i : Nat}
theorem AW.rgK (E : Env P) {l : List Oper} {draw : Bool} (hd : draw = true → drawOk E.F l.toArray = true) (hr : ∀ K : List V → Hp → Prop, (∀ s h, Q .normal s h → K s h) → OpsTo P E.O l.toArray l s h K) : AW P (.region id l.toArray draw) Q s h :=
  AW.rg E hd (hr _ fun _ _ hq => hq)
theorem Ex.then_mk (hk : K s h) : Ex.then K Q .normal s h := hk
theorem Ex.then_exit_mk (hk : Q (.exit i) s h) : Ex.then K Q (.exit i) s h := hk
theorem Ex.then_ret_mk (hk : Q .ret s h) : Ex.then K Q .ret s h := hk
theorem Ex.inBlock_mk (hk : Q .normal s h) : Ex.inBlock id Q .normal s h := hk
theorem Ex.inBlock_ret_mk (hk : Q .ret s h) : Ex.inBlock id Q .ret s h := hk
theorem Ex.inBlock_same_mk (hk : Q .normal s h) : Ex.inBlock id Q (.exit id) s h := by simpa [Ex.inBlock] using hk
theorem Ex.inBlock_other_mk (hi : (i == id) = false) (hk : Q (.exit i) s h) : Ex.inBlock id Q (.exit i) s h := by simp at hi; simpa [Ex.inBlock, hi] using hk
end
end Go.Vm
