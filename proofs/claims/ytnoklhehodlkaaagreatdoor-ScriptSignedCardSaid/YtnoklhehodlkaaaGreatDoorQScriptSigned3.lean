/- Texts of ours, joined: VmArr, VmExt, VmStl, VmEq, VmAis, VmShort, VmCut, VmQ, VmX, VmY, VmZ. -/
import Derived.Test.YtnoklhehodlkaaaGreatDoorQScriptSigned2
import Derived.ChangeKeysEq
import Derived.Scope
set_option linter.unusedSimpArgs false
set_option linter.unusedVariables false
namespace Go.Vm
open Go
def aR {α : Type} (n : Nat) (l : List α) : Option (List α) := if l.length = n then some l else none
def aW {α : Type} (n : Nat) (l : List α) (i : Int) : Option α := if i < n then cU l i else none
def nM {α : Type} (n : Nat) (l : List α) : Option (List α) := if n ≤ l.length then some (l.take n) else none
def aFT {α : Type} (n : Nat) (l : List (List α)) : Option (List (List α)) := if l.all (fun x => x.length == n) = true then some l else none
theorem aF3 {α : Type} {n : Nat} {l m : List (List α)} (h : aFT n l = some m) : ∀ x ∈ l, x.length = n := by
  unfold aFT at h
  split at h
  · rename_i hh
    intro x hx
    exact beq_iff_eq.1 (List.all_eq_true.1 hh x hx)
  · cases h
theorem aQ {α : Type} {n : Nat} {l m : List α} (h : aR n l = some m) : l.length = n := by
  unfold aR at h; split at h
  · assumption
  · cases h
theorem aHE {α : Type} {n : Nat} {l m : List α} (h : aR n l = some m) (hn : Nat.ble 1 n = true) : Nat.ble 1 l.length = true := by rw [aQ h]; exact hn
theorem bP {α : Type} {n : Nat} {l m : List α} (h : nM n l = some m) : m.length = n := by
  unfold nM at h; split at h
  · injection h with h; subst h; simp; omega
  · cases h
theorem aHx {α : Type} {n : Nat} {l m : List α} (h : nM n l = some m) (hn : Nat.ble 1 n = true) : Nat.ble 1 m.length = true := by rw [bP h]; exact hn
theorem nF {α : Type} {n : Nat} {l : List α} {i : Int} {y : α} (h : aW n l i = some y) : cU l i = some y := by
  unfold aW at h; split at h
  · exact h
  · cases h
theorem aGN {α : Type} {n : Nat} {l : List α} {i : Int} {y : α} (h : aW n l i = some y) : i < n := by
  unfold aW at h; split at h
  · assumption
  · cases h
section
variable {P : Program} {h h' : Hp} {t e : TypeId} {ti : TI} {i off b N : Nat} {v : V} {α : Type} {E : α → V} {l m : List α} {y : α} {k : IntKind} {j : Int} {sz by_ : Nat} {z : Value} {ag : Bool}
theorem iaB (ht : aK P t = some ⟨.array N e, sz, by_, z⟩) (he : aK P e = some ti) (h1 : ti.size = 1) (hx : aW N l j = some y) : f6 P t (.ptr b 0) (.sc (.int k j)) = some (.ptr b j.toNat) := by
  obtain ⟨h2, h3, _⟩ := iP (nF hx)
  simp [f6, ht, nQ, he, h1, h2, aGN hx]
theorem iaG {es : List V} (ht : aK P t = some ⟨.array N e, sz, by_, z⟩) (he : aK P e = some ti) (h1 : ti.size = 1) (hx : aW N l j = some y) : f6 P t (.eptr es 0 0) (.sc (.int k j)) = some (.eptr es 0 j.toNat) := by
  obtain ⟨h2, h3, _⟩ := iP (nF hx)
  simp [f6, ht, nQ, he, h1, h2, aGN hx]
theorem ixA (ht : aK P t = some ⟨.array N e, sz, by_, z⟩) (he : aK P e = some ti) (h1 : ti.size = 1) (hd : b5 ti.desc = false) (hx : aW N l j = some y) : u9 P t (.agg (l.map E)) (.sc (.int k j)) = some (E y) := by
  obtain ⟨h2, h3, h4⟩ := iP (nF hx)
  simp [u9, ht, nQ, he, h1, h2, aGN hx, fU, hd, h4]
theorem ldG (ht : aK P t = some ti) (hd : b5 ti.desc = false) (hx : cU l j = some y) : dX P t h (.eptr [.agg (l.map E)] 0 j.toNat) = some (E y) := by
  obtain ⟨_, _, h3⟩ := iP hx
  simp [dX, V.cells, fU, ht, hd, h3]
theorem uN (ht : aK P t = some ⟨.array N e, sz, by_, z⟩) (hsz : sz = N) (hb : h[b]? = some (some ⟨i, l.map E⟩)) (hl : l.length = N) : dX P t h (.ptr b 0) = some (.agg (l.map E)) := by
  subst hsz
  simp only [dX, hb, fU, ht, b5, if_true, List.drop_zero, List.length_map]
  rw [if_pos (by omega), List.take_of_length_le (by simp; omega)]
theorem aGs (ht : aK P t = some ⟨.array N e, sz, by_, z⟩) (hsz : sz = N) (hl : l.length = N) : dX P t h (.eptr [.agg (l.map E)] 0 0) = some (.agg (l.map E)) := by
  subst hsz
  simp only [dX, List.getElem?_cons_zero, V.cells, fU, ht, b5, if_true, List.drop_zero, List.length_map]
  rw [if_pos (by omega), List.take_of_length_le (by simp; omega)]
theorem s6 (ht : aK P t = some ⟨.array N e, sz, by_, z⟩) (hsz : sz = N) (hb : h[b]? = some (some ⟨i, l.map E⟩)) (hE : ∀ x, (E x).one = true) (hl : l.length = N) (hm : m.length = N) (hh : h.set b (some ⟨i, m.map E⟩) = h') : qF P t h (.ptr b 0) (.agg (m.map E)) = some h' := by
  subst hh hsz
  simp only [qF, ht, hb]
  rw [if_pos ⟨by simp [V.flatOk, V.cells, hE], by simp [V.cells, hm], by simp [hl]⟩]
  congr 4
  unfold splice
  simp only [V.cells, List.take_zero, List.nil_append, Nat.zero_add, List.length_map]
  rw [List.drop_eq_nil_of_le (by simp; omega), List.append_nil]
theorem slA (ht : aK P t = some ⟨.array N e, sz, by_, z⟩) (he : aK P e = some ti) (h1 : ti.size = 1) (hag : b5 ti.desc = ag) (hb : h[b]? = some (some ⟨i, l.map E⟩)) (hl : l.length = N) (hN : 0 < N ∧ N ≤ lA) : i0 P t h (.ptr b 0) none none = some (.sl b 0 N 1 ag) := by
  subst hag
  simp only [i0, ht, he, lT, rV, hb]
  rw [if_pos ⟨by omega, hN.2, Int.le_refl _, by omega, Int.le_refl _, by simp [h1, hl]⟩]
  simp [h1]
theorem slE (ht : aK P t = some ⟨.array N e, sz, by_, z⟩) (he : aK P e = some ti) (h1 : ti.size = 1) (hag : b5 ti.desc = false) (hl : l.length = N) (hN : 0 < N) : i0 P t h (.eptr [.agg (l.map E)] 0 0) none none = some (.row none 1 (l.map E)) := by
  simp only [i0, ht, he, lT, rV, List.getElem?_cons_zero]
  rw [if_pos ⟨h1, hag, Int.le_refl _, by omega, Int.le_refl _, by simp [V.cells, hl]⟩]
  simp [V.cells, hl, List.take_of_length_le]
theorem apR {nl : Option Bool} (ht : aK P t = some ⟨.array N e, sz, by_, z⟩) (hE : ∀ x, (E x).one = true) (hN : 0 < N) (hx : nM N l = some m) : yL P t (.row nl 1 (l.map E)) = some (.eptr [.agg (m.map E)] 0 0) := by
  unfold nM at hx
  split at hx
  · injection hx with hx
    subst hx
    simp only [yL, ht]
    rw [if_pos ⟨trivial, hN, by simpa using by assumption, by simp [hE]⟩, List.map_take]
  · cases hx
end
section
variable {P : Program} {O : sZ} {n : Nat} {fr : List (Nat × V)} {h h' : Hp} {ty : TypeId} {pos : String} {aft : Array Edge} {d : Option Tmp} {g : Option (Nat × Bool)} {x : Operand} {a v : V}
theorem aAU {t : TypeId} (hx : a9 n fr x = some a) (hv : yL P t a = some v) : aY P O ⟨d, .sliceToArrayPointer t x, ty, pos, aft, g⟩ (aG n fr) h = some (v, h) := by simp [aY, cE hx, hv]
end
theorem V.le_arr {α : Type} {E : α → V} {f : Nat → Nat} {vn : Nat → Bool} {l : List α} (hE : ∀ x, (E x).rn f = E x) : V.le vn (.agg (l.map E)) ((V.agg (l.map E)).rn f) := by
  have : (V.agg (l.map E)).rn f = V.agg (l.map E) := by simp only [V.rn, mA hE]
  rw [this]; exact V.le_refl _ _
theorem aGx {k : IntKind} (l : List Int) : V.rfs (l.map (eI k)) = true := yT (fun _ => rfl) l
theorem aGG (l : List Bool) : V.rfs (l.map eB) = true := yT (fun _ => rfl) l
abbrev eA {α : Type} (E : α → V) (l : List α) : V := .agg (l.map E)
theorem aOs {α : Type} {E : α → V} {l : List α} (h : ∀ x, (E x).one = true) : (V.agg (l.map E)).flatOk = true := by simp [V.flatOk, V.cells, h]
theorem aJ0 {P : Program} {h : Hp} {t e : TypeId} {N sz by_ : Nat} {z : Value} {α : Type} {E : α → V} {l : List (List α)} {y : List α} {j : Int} (ht : aK P t = some ⟨.array N e, sz, by_, z⟩) (hsz : sz = N) (hx : cU l j = some y) (hl : y.length = N) : dX P t h (.eptr (l.map (eA E)) j.toNat 0) = some (.agg (y.map E)) := by
  subst hsz
  obtain ⟨_, _, h3⟩ := iP hx
  simp only [dX, List.getElem?_map, h3, Option.map_some, V.cells, fU, ht, b5, if_true, List.drop_zero, List.length_map]
  rw [if_pos (by omega), List.take_of_length_le (by simp; omega)]
section
variable {P : Program} (t : TypeId) (xo yo : Operand)
theorem fB {α β : Type} (s : Sem α) (f : α → Sem β) {a : α} (h : aV P s = some a) : aV P (s >>= f) = aV P (f a) := by
  show aV P (Sem.bind s f) = _
  induction s with
  | pure x => simp only [aV, Option.some.injEq] at h; subst h; rfl
  | program k ih => exact ih P h
  | mark m k ih => exact ih h
  | _ => simp [aV] at h
theorem qW {t : TypeId} {ti : TI} (ht : aK P t = some ti) : aV P (underlying t) = some ti.desc := by
  have h1 := (b9 ht).1
  show aV P (match P.underlying t with | some d => pure d | none => stuck "no such type") = _
  rw [h1]; rfl
end
section
variable {P : Program}
theorem aDo {t : TypeId} {ti : TI} (ht : aK P t = some ti) : aV P (sizeOf t) = some ti.size := by
  obtain ⟨_, i, h1, h2, _⟩ := b9 ht
  have : aV P (typeInfo t) = some i := by
    show aV P (match P.info? t with | some i => pure i | none => stuck "no such type") = _
    rw [h1]; rfl
  unfold sizeOf
  rw [fB _ _ this, ← h2]; rfl
theorem aBw {t : TypeId} {ti : TI} (ht : aK P t = some ti) (hd : b5 ti.desc = false) {cs : Array Value} {off : Nat} {v : Value} (hv : cs[off]? = some v) : aV P (part t cs off) = some v := by
  unfold part
  have hu := qW ht
  have h1 : aV P (isAgg t) = some false := by
    unfold isAgg
    rw [fB _ _ hu]
    cases hh : ti.desc <;> first | rfl | (rw [hh] at hd; simp [b5] at hd)
  rw [fB _ _ h1]
  simp only [Bool.false_eq_true, if_false, hv]
  rfl
theorem aJD {t : TypeId} {k k' : IntKind} {sz by_ : Nat} {z : Value} (ht : aK P t = some ⟨.int k', sz, by_, z⟩) (d : Nat) (a b : Int) : aV P (Op.equalIn (d + 1) t (.int k a) (.int k b)) = some (a == b) := by
  rw [Op.equalIn, fB _ _ (qW ht)]
  simp only [if_true]
  rfl
theorem aER {t e : TypeId} {k k' : IntKind} {N sz by_ sz' by' : Nat} {z z' : Value} (ht : aK P t = some ⟨.array N e, sz, by_, z⟩) (he : aK P e = some ⟨.int k', sz', by', z'⟩) (h1 : sz' = 1) {l m : List Int} (hl : l.length = N) (hm : m.length = N) (d : Nat) :
    aV P (Op.equalIn (d + 2) t (.agg (l.map (Value.int k)).toArray) (.agg (m.map (Value.int k)).toArray)) = some (l == m) := by
  subst h1
  rw [Op.equalIn, fB _ _ (qW ht)]
  simp only
  rw [fB _ _ (aDo he)]
  simp only [Std.Legacy.Range.forIn_eq_forIn_range', Std.Legacy.Range.size, Nat.sub_zero, Nat.add_one_sub_one, Nat.div_one]
  have key : ∀ (c i : Nat), i + c = N → l.take i = m.take i → aV P (do
      let r ← forIn (List.range' i c 1) ((none, ()) : Option Bool × Unit) fun i r => do
        let a ← part e (l.map (Value.int k)).toArray (i * 1)
        let b ← part e (m.map (Value.int k)).toArray (i * 1)
        let q ← Op.equalIn (d + 1) e a b
        if (!q) = true then pure (ForInStep.done (some false, ())) else pure (ForInStep.yield (none, ()))
      match r.fst with
      | some a => pure a
      | none => pure true) = some (l == m) := by
    intro c
    induction c with
    | zero =>
      intro i hi hp
      have : l = m := by
        rw [List.take_of_length_le (by omega), List.take_of_length_le (by omega)] at hp
        exact hp
      subst this
      simp only [List.range'_zero, List.forIn_nil]
      show some true = _
      simp
    | succ c ih =>
      intro i hi hp
      have hil : i < l.length := by omega
      have him : i < m.length := by omega
      simp only [List.range'_succ, List.forIn_cons, bind_assoc]
      rw [fB _ _ (aBw he rfl (v := .int k l[i]) (by simp [hil])), fB _ _ (aBw he rfl (v := .int k m[i]) (by simp [him])), fB _ _ (aJD he d _ _)]
      by_cases hq : l[i] = m[i]
      · have := ih (i + 1) (by omega) (by rw [List.take_succ_eq_append_getElem hil, List.take_succ_eq_append_getElem him, hp, hq])
        simpa [hq] using this
      · have hne : l ≠ m := by rintro rfl; exact hq rfl
        have : (l == m) = false := by simpa using hne
        rw [this]
        have hq' : (l[i] == m[i]) = false := by simpa using hq
        rw [hq']
        rfl
  refine Eq.trans (congrArg (aV P) ?_) (key N 0 (by omega) (by simp))
  refine congr (congrArg bind ?_) (funext fun r => ?_)
  · rfl
  · obtain ⟨r, _⟩ := r
    cases r <;> rfl
variable (t : TypeId) (xo yo : Operand)
theorem aDJ (k : IntKind) (l : List Int) : eN (.agg (l.map (eI k))) = some (.agg (l.map (Value.int k)).toArray) := by
  have : (l.map (eI k)).mapM dM = some (l.map (Value.int k)) := by
    induction l with
    | nil => rfl
    | cons x l ih => simp only [List.map_cons, List.mapM_cons, ih]; rfl
  simp only [eN, this, Option.map_some]
theorem aES {e : TypeId} {k' : IntKind} {N sz by_ sz' by' : Nat} {z z' : Value} {t : TypeId} (ht : aK P t = some ⟨.array N e, sz, by_, z⟩) (he : aK P e = some ⟨.int k', sz', by', z'⟩) (hd : 2 ≤ P.depth) {bo : BinOp} (hbo : bo = .eql ∨ bo = .neq) (a b : Array Value) : aV P (eqGuard bo t xo yo (.agg a) (.agg b)) = some () := by
  unfold eqGuard
  have hg : P.eqGuardType P.depth t = false := by
    obtain ⟨q, hq⟩ : ∃ q, P.depth = q + 2 := ⟨P.depth - 2, by omega⟩
    rw [hq]
    simp only [Program.eqGuardType, (b9 ht).1, (b9 he).1]
  rcases hbo with rfl | rfl <;>
  · show aV P (if (!P.eqGuardType P.depth t) = true then pure () else _) = some ()
    rw [hg]; rfl
theorem aKC {e : TypeId} {k k' : IntKind} {N sz by_ sz' by' : Nat} {z z' : Value} {t : TypeId} (ht : aK P t = some ⟨.array N e, sz, by_, z⟩) (he : aK P e = some ⟨.int k', sz', by', z'⟩) (h1 : sz' = 1) (hd : 2 ≤ P.depth) {l m : List Int} (hl : l.length = N) (hm : m.length = N) :
    dI P .eql t xo yo (.agg (l.map (eI k))) (.agg (m.map (eI k))) = some (.sc (.bool (l == m))) := by
  simp only [dI, aDJ, pureV]
  rw [fB _ _ (aES xo yo ht he hd (.inl rfl) _ _)]
  have : aV P (binOp .eql t (.agg (l.map (Value.int k)).toArray) (.agg (m.map (Value.int k)).toArray)) = some (.bool (l == m)) := y6 _ _ (aER ht he h1 hl hm 9998)
  rw [this]; rfl
theorem aKN {e : TypeId} {k k' : IntKind} {N sz by_ sz' by' : Nat} {z z' : Value} {t : TypeId} (ht : aK P t = some ⟨.array N e, sz, by_, z⟩) (he : aK P e = some ⟨.int k', sz', by', z'⟩) (h1 : sz' = 1) (hd : 2 ≤ P.depth) {l m : List Int} (hl : l.length = N) (hm : m.length = N) :
    dI P .neq t xo yo (.agg (l.map (eI k))) (.agg (m.map (eI k))) = some (.sc (.bool (!(l == m)))) := by
  simp only [dI, aDJ, pureV]
  rw [fB _ _ (aES xo yo ht he hd (.inr rfl) _ _)]
  have : aV P (binOp .neq t (.agg (l.map (Value.int k)).toArray) (.agg (m.map (Value.int k)).toArray)) = some (.bool (!(l == m))) := y6 _ (fun b => Value.bool !b) (aER ht he h1 hl hm 9998)
  rw [this]; rfl
end
end Go.Vm
set_option linter.unusedSimpArgs false
set_option linter.unusedVariables false
namespace Go.Vm
open Go
theorem aIQ {P : Program} {f : FuncId} {fn : Func} {args : List V} {r : V} {h : Hp} {e : Array Value → Sem Value} (hf : P.funcs[f]? = some fn) (hn : (fn.name == "runtime.NumGoroutine") = false) (hb : fn.body.isNone = true) (h1 : Extern.findNext fn = none) (h2 : Extern.find fn = some e)
    (he : ∀ (X : Nat → Prop) (M : List (Option Nat)) (w : World) (vs : List Value), VCells X M w args vs → ∃ v, (e vs.toArray).run P w = .ok v w ∧ VR X M w r v) : Fn P f h args r h := by
  intro A M w vs H hargs
  obtain ⟨v, hv, hr⟩ := he _ _ _ _ hargs
  refine .inr ⟨v, w, ?_, M, Grow.refl H, hr⟩
  have e1 : (callFunc f vs.toArray).run P w = ((e vs.toArray).run P w).andThen fun v w => .ok (.value v) w := by
    unfold callFunc
    show Sem.run P (match P.funcs[f]? with | none => _ | some fn => _) w = _
    rw [hf]
    simp only [hn, Bool.false_eq_true, if_false, hb, if_true, h1, h2]
    show Sem.run P (Sem.bind (e vs.toArray) _) w = _
    exact Sem.run_bind ..
  rw [e1, hv]
  rfl
end Go.Vm
set_option linter.unusedSimpArgs false
set_option linter.unusedVariables false
namespace Go.Vm
open Go
section
variable {α : Type} {C : α → List V} {K : Nat}
theorem mZ (hC : ∀ x, (C x).length = K) : ∀ l : List α, (l.flatMap C).length = l.length * K
  | [] => by simp
  | x :: l => by simp only [List.flatMap_cons, List.length_append, hC, mZ hC l, List.length_cons, Nat.add_mul, Nat.one_mul]; omega
theorem aB8 (hC : ∀ x, (C x).length = K) : ∀ (l : List α) (i : Nat), (l.flatMap C).drop (i * K) = (l.drop i).flatMap C
  | l, 0 => by simp
  | [], i + 1 => by simp
  | x :: l, i + 1 => by
    rw [List.flatMap_cons, List.drop_succ_cons, ← aB8 hC l i, Nat.add_mul, Nat.one_mul, List.drop_append, List.drop_eq_nil_of_le (by rw [hC]; omega), List.nil_append, hC]
    congr 1; omega
theorem aEW (hC : ∀ x, (C x).length = K) : ∀ (l : List α) (i : Nat), (l.flatMap C).take (i * K) = (l.take i).flatMap C
  | l, 0 => by simp
  | [], i + 1 => by simp
  | x :: l, i + 1 => by
    rw [List.flatMap_cons, List.take_succ_cons, List.flatMap_cons, ← aEW hC l i, Nat.add_mul, Nat.one_mul, List.take_append, List.take_of_length_le (by rw [hC]; omega), hC]
    congr 2; omega
theorem aCK (hC : ∀ x, (C x).length = K) (l : List α) : r5 true K l.length (l.flatMap C) = l.map fun x => V.agg (C x) := by
  unfold r5
  rw [if_pos rfl]
  apply List.ext_getElem
  · simp
  · intro i h1 h2
    simp only [List.length_map] at h2
    simp only [List.getElem_map, List.getElem_range]
    rw [aB8 hC, List.drop_eq_getElem_cons h2, List.flatMap_cons, List.take_append, List.take_of_length_le (by rw [hC]; exact Nat.le_refl _), hC, Nat.sub_self, List.take_zero, List.append_nil]
theorem mK {p : V → Bool} (h : ∀ x, (C x).all p = true) (l : List α) : (l.flatMap C).all p = true := by
  rw [List.all_eq_true]; intro y hy
  simp only [List.mem_flatMap] at hy
  obtain ⟨x, _, hy⟩ := hy
  exact List.all_eq_true.1 (h x) y hy
theorem aHR {f : Nat → Nat} : ∀ (a b : List V), V.rns f (a ++ b) = V.rns f a ++ V.rns f b
  | [], b => by simp [V.rns]
  | x :: a, b => by simp [V.rns, aHR a b]
theorem fN {f : Nat → Nat} (h : ∀ x, V.rns f (C x) = C x) : ∀ l : List α, V.rns f (l.flatMap C) = l.flatMap C
  | [] => by simp [V.rns]
  | x :: l => by rw [List.flatMap_cons, aHR, h, fN h l]
theorem zX {f : Nat → Nat} {vn : Nat → Bool} (h : ∀ x, V.rns f (C x) = C x) (l : List α) : V.les vn (l.flatMap C) (V.rns f (l.flatMap C)) := by rw [fN h]; exact V.les_refl _ _
theorem aHJ : ∀ (a b : List V), V.rfs (a ++ b) = (V.rfs a && V.rfs b)
  | [], b => by simp [V.rfs]
  | x :: a, b => by simp [V.rfs, aHJ a b, Bool.and_assoc]
theorem aBe (h : ∀ x, V.rfs (C x) = true) : ∀ l : List α, V.rfs (l.flatMap C) = true
  | [] => by simp [V.rfs]
  | x :: l => by rw [List.flatMap_cons, aHJ, h, aBe h l]; rfl
theorem aKP {F : V → Option V} {a b a' b' : List V} (h1 : a.mapM F = some a') (h2 : b.mapM F = some b') : (a ++ b).mapM F = some (a' ++ b') := by
  rw [List.mapM_append, h1, h2]; rfl
theorem aE6 {F : V → Option V} (h : ∀ x, (C x).mapM F = some (C x)) : ∀ l : List α, (l.flatMap C).mapM F = some (l.flatMap C)
  | [] => rfl
  | x :: l => by rw [List.flatMap_cons]; exact aKP (h x) (aE6 h l)
variable {P : Program} {h h' : Hp} {t e : TypeId} {ti : TI} {b i off : Nat} {l m : List α} {y : α} {kk : IntKind} {j : Int} {nl : Option Bool} {sz by_ : Nat} {z : Value} {v : V}
theorem aMI {hE : Hp} {q d : Nat} (hC : ∀ x, (C x).length = K) (hK : 0 < K) (hn : l.length = q) (hb : hE[b]? = some (some ⟨e, l.flatMap C⟩)) (hx : ∀ x, (C x).mapM (dY hE d) = some (C x)) : dY hE (d + 1) (.sl b 0 q K true) = some (.row none K (l.map fun x => V.agg (C x))) := by
  subst hn
  simp only [dY, hb]
  rw [if_pos ⟨by rw [mZ hC]; omega, hK, .inl trivial⟩]
  simp only [List.drop_zero]
  rw [List.take_of_length_le (by rw [mZ hC]; exact Nat.le_refl _), aE6 hx]
  simp only [Option.map_some, aCK hC]
theorem aGK {hE : Hp} {q : Nat} (hC : ∀ x, (C x).length = K) (hK : 0 < K) (hn : l.length = q) (hb : hE[b]? = some (some ⟨e, l.flatMap C⟩)) (hx : ∀ x, (C x).mapM (dY hE 3) = some (C x)) : xM hE (.sl b 0 q K true) = some (.row none K (l.map fun x => V.agg (C x))) := aMI hC hK hn hb hx
theorem aOe : e7 h K (.row nl K (m.map fun x => V.agg (C x))) = some (m.flatMap C, m.length) := by
  have : (m.map fun x => V.agg (C x)).flatMap V.cells = m.flatMap C := by rw [List.flatMap_map]; rfl
  simp only [e7]
  rw [if_pos (.inl trivial), this]; simp
theorem aOr {q : Nat} (hC : ∀ x, (C x).length = K) (hn : m.length = q) (hb : h[b]? = some (some ⟨e, m.flatMap C⟩)) : e7 h K (.sl b 0 q K true) = some (m.flatMap C, m.length) := by
  subst hn
  simp only [e7, hb]
  rw [if_pos ⟨trivial, by rw [mZ hC]; omega⟩, List.drop_zero, List.take_of_length_le (by rw [mZ hC]; exact Nat.le_refl _)]
theorem aOb {k : Nat} : e7 h K (.row nl k []) = some (([] : List α).flatMap C, ([] : List α).length) := by simp [e7]
theorem aN0 {q : Nat} (hC : ∀ x, (C x).length = K) (hn : l.length = q) (ht : aK P t = some ⟨.slice e, sz, by_, z⟩) (he : aK P e = some ti) (h1 : ti.zero.cells.size = K ∧ ti.size = K ∧ 1 ≤ ti.bytes ∧ 0 < K) (hb : h[b]? = some (some ⟨e, l.flatMap C⟩)) {s : V} (hs : e7 h K s = some (m.flatMap C, m.length))
    {r : List α} (ha : app ti.bytes l m = some r) (hl : h.length = i) (hh : h.set b none ++ [some ⟨e, r.flatMap C⟩] = h') : hY P t t (.sl b 0 q K true) s h = some (.sl i 0 r.length K true, h') := by
  obtain ⟨h2, h3, h4, h5⟩ := h1
  subst hn
  unfold app at ha
  split at ha
  · rename_i hlim
    injection ha with ha
    subst ha hl hh
    have hx : e7 h ti.size s = some (m.flatMap C, m.length) := by rw [h3]; exact hs
    simp only [hY, ne_eq, not_true, if_false, ht, he]
    rw [if_pos ⟨by rw [h2, h3], by omega, h4⟩]
    simp only [hx, hb]
    rw [if_pos ⟨h3.symm, trivial, by rw [mZ hC]; exact Nat.le_refl _, hlim⟩, List.take_of_length_le (by rw [mZ hC]; exact Nat.le_refl _)]
    simp
  · cases ha
theorem aN4 (ht : aK P t = some ⟨.slice e, sz, by_, z⟩) (he : aK P e = some ti) (h1 : ti.zero.cells.size = K ∧ ti.size = K ∧ 1 ≤ ti.bytes ∧ 0 < K) {s : V} (hs : e7 h K s = some (m.flatMap C, m.length)) (hag : b5 ti.desc = true) {k : Nat}
    {r : List α} (ha : app ti.bytes [] m = some r) (hl : h.length + 1 = i) (hh : h ++ [none] ++ [some ⟨e, r.flatMap C⟩] = h') : hY P t t (.row (some true) k []) s h = some (.sl i 0 r.length K true, h') := by
  obtain ⟨h2, h3, h4, h5⟩ := h1
  unfold app at ha
  split at ha
  · rename_i hlim
    injection ha with ha
    subst ha hl hh
    have hx : e7 h ti.size s = some (m.flatMap C, m.length) := by rw [h3]; exact hs
    simp only [hY, ne_eq, not_true, if_false, ht, he]
    rw [if_pos ⟨by rw [h2, h3], by omega, h4⟩]
    simp only [hx]
    rw [if_pos (by simpa using hlim)]
    simp [h3, hag]
  · cases ha
theorem aPq {q : Nat} (hn : l.length = q) (ht : aK P t = some ⟨.slice e, sz, by_, z⟩) (he : aK P e = some ti) (h1 : ti.size = K) (hx : cU l j = some y) : f6 P t (.sl b 0 q K true) (.sc (.int kk j)) = some (.ptr b (0 + j.toNat * K)) := by
  obtain ⟨h2, h3, _⟩ := iP hx
  subst hn
  simp [f6, ht, nQ, he, h1, h2, h3]
theorem aI7 {cs r : List V} (h : fU P t cs = some v) : fU P t (cs ++ r) = some v := by
  unfold fU at *
  split at h
  · cases h
  · split at h
    · rename_i hag
      split at h
      · rename_i hs
        rw [if_pos hag, if_pos (by rw [List.length_append]; omega), List.take_append_of_le_length hs]; exact h
      · cases h
    · rename_i hag
      rw [if_neg hag]
      cases cs with
      | nil => cases h
      | cons c cs => exact h
theorem aLL (hC : ∀ x, (C x).length = K) {i : Nat} (hi : l[i]? = some y) (ho : off ≤ K) : (l.flatMap C).drop (0 + i * K + off) = (C y).drop off ++ (l.drop (i + 1)).flatMap C := by
  obtain ⟨h1, h2⟩ := List.getElem?_eq_some_iff.1 hi
  rw [Nat.zero_add, ← List.drop_drop, aB8 hC, List.drop_eq_getElem_cons h1, h2, List.flatMap_cons, List.drop_append_of_le_length (by rw [hC]; exact ho)]
theorem aKf (hC : ∀ x, (C x).length = K) (hb : h[b]? = some (some ⟨e, l.flatMap C⟩)) (hx : cU l j = some y) (ho : off ≤ K) (hp : fU P t ((C y).drop off) = some v) : dX P t h (.ptr b (0 + j.toNat * K + off)) = some v := by
  obtain ⟨_, _, h3⟩ := iP hx
  simp only [dX, hb]
  rw [aLL hC h3 ho]
  exact aI7 hp
theorem aLd (hC : ∀ x, (C x).length = K) (hb : h[b]? = some (some ⟨e, l.flatMap C⟩)) (hx : cU l j = some y) (hp : fU P t (C y) = some v) : dX P t h (.ptr b (0 + j.toNat * K)) = some v := aKf (off := 0) hC hb hx (Nat.zero_le _) (by simpa using hp)
theorem aG7 (hC : ∀ x, (C x).length = K) {i : Nat} (hi : l[i]? = some y) {x : V} {y' : α} (ho : off + x.cells.length ≤ K) (hy : splice (C y) off x.cells = C y') : splice (l.flatMap C) (0 + i * K + off) x.cells = (l.set i y').flatMap C := by
  obtain ⟨h1, h2⟩ := List.getElem?_eq_some_iff.1 hi
  have hl : l = l.take i ++ y :: l.drop (i + 1) := by rw [← h2, ← List.drop_eq_getElem_cons h1, List.take_append_drop]
  have hset : l.set i y' = l.take i ++ y' :: l.drop (i + 1) := by
    rw [List.set_eq_take_append_cons_drop, if_pos h1]
  have hti : (l.take i).length = i := by rw [List.length_take]; omega
  rw [hset, List.flatMap_append, List.flatMap_cons, ← hy]
  conv => lhs; rw [hl, List.flatMap_append, List.flatMap_cons]
  have hA : ((l.take i).flatMap C).length = i * K := by rw [mZ hC, hti]
  unfold splice
  rw [Nat.zero_add, List.take_append, List.take_of_length_le (by rw [hA]; omega), hA, show i * K + off - i * K = off by omega, List.take_append_of_le_length (by rw [hC]; omega)]
  rw [show i * K + off + x.cells.length = i * K + (off + x.cells.length) by omega, List.drop_append, List.drop_eq_nil_of_le (by rw [hA]; omega), hA, show i * K + (off + x.cells.length) - i * K = off + x.cells.length by omega, List.nil_append, List.drop_append_of_le_length (by rw [hC]; omega)]
  simp [List.append_assoc]
theorem aPa (hC : ∀ x, (C x).length = K) (ht : aK P t = some ti) (hb : h[b]? = some (some ⟨e, l.flatMap C⟩)) (hx : cU l j = some y) {x : V} {y' : α} (hf : x.flatOk = true) (hs : x.cells.length = ti.size) (ho : off + ti.size ≤ K) (hy : splice (C y) off x.cells = C y') (hh : h.set b (some ⟨e, (l.set j.toNat y').flatMap C⟩) = h') : qF P t h (.ptr b (0 + j.toNat * K + off)) x = some h' := by
  obtain ⟨_, _, h3⟩ := iP hx
  have h4 := (List.getElem?_eq_some_iff.1 h3).1
  subst hh
  simp only [qF, ht, hb]
  have hle : (j.toNat + 1) * K ≤ l.length * K := Nat.mul_le_mul_right K h4
  rw [if_pos ⟨hf, hs, by rw [mZ hC]; rw [Nat.add_mul, Nat.one_mul] at hle; omega⟩, aG7 hC h3 (by rw [hs]; exact ho) hy]
theorem Conv.rowK (hC : ∀ x, (C x).length = K) (h1K : ∀ x, (C x).all V.one = true) (hsh : ∀ x, (C x).all V.shut = true) {h h' : Hp} (hs : Sub h h') {b n : Nat} {e : TypeId} (hb : h[b]? = some (some ⟨e, l.flatMap C⟩)) (hb' : h'[b]? = some none) (hn : n = l.length) : Conv h h' (.sl b 0 n K true) (.row none K (l.map fun x => V.agg (C x))) := by
  intro A M w v H hv
  obtain ⟨hone, hcase⟩ := H.blk b _ hb
  have hok : ∀ e ∈ l.map (fun x => V.agg (C x)), e.okElem K = true := by
    intro e he
    simp only [List.mem_map] at he
    obtain ⟨x, _, rfl⟩ := he
    simp only [V.okElem, V.flatOk, V.cells, h1K x, hC x, beq_self_eq_true, Bool.and_self]
  unfold VR at hv ⊢
  rcases hv with ⟨hm, rfl, h0, _⟩ | ⟨g, cap, e', sz, hm, rfl, h1, _, h3, hshp, _⟩
  · have : l = [] := List.eq_nil_of_length_eq_zero (by omega)
    subst this
    exact ⟨none, 0, rfl, Nat.le_refl _, fun _ => rfl, (fun b hb => by cases hb), by simp, fun hne => absurd rfl hne⟩
  · rcases hcase with ⟨hm', _⟩ | ⟨g', aR, hm', hA, hw, hle, hcs⟩
    · rw [hm] at hm'; cases hm'
    · rw [hm] at hm'
      injection hm' with hm'
      injection hm' with hm'
      subst hm'
      refine ⟨some ⟨g, 0, none⟩, cap, by rw [List.length_map, hn], by rw [List.length_map]; omega, fun hh => (by cases hh), (fun b hb => by cases hb), hok, fun _ => ⟨⟨g, 0, none⟩, rfl, h3, ?_, rfl, ?_⟩⟩
      · rintro (ha | ⟨c, C', hc, hmc⟩)
        · exact hA ha
        · obtain ⟨C'', hc'⟩ := hs c C' hc
          have := H.inj c b C'' _ g hc' hb hmc hm
          subst this
          rw [hb'] at hc; cases hc
      · rw [← aCK hC l]
        unfold r5
        rw [if_pos rfl]
        dsimp only at hle hcs
        have hall := mK hsh l
        refine aAg h3 l.length (vs := aR.toList.take (l.flatMap C).length) (mZ hC l) (VCells.mk hcs.len (fun i c u hc hu => ?_)) ?_
        · obtain ⟨u', hu', hr⟩ := hcs.get hc
          rw [hu] at hu'
          injection hu' with hu'
          subst hu'
          exact (hr.shut (List.all_eq_true.1 hall c (List.mem_of_getElem? hc))).avoid (fun _ _ hx => hs.xs hx)
        · intro i u hu
          have hu2 : aR[i]? = some u := by
            simp only [List.getElem?_toArray, List.getElem?_take] at hu
            split at hu
            · simpa using hu
            · cases hu
          have := hw.cell hshp i
          rw [hu2] at this
          unfold Addr.add
          split
          · rename_i h0; subst h0; exact this
          · simpa using this
theorem aE0 (hC : ∀ x, (C x).length = K) (h1 : ∀ x, (C x).all V.one = true) : ∀ (xs : List α) (i : Nat) (cells : List V), cells.length = (i + xs.length) * K → m9 (fun i => some (i * K, K)) cells (qU i (xs.map fun x => V.agg (C x))) = some (cells.take (i * K) ++ xs.flatMap C)
  | [], i, cells, hl => by
    simp only [List.map_nil, qU, m9, List.flatMap_nil, List.append_nil]
    rw [List.take_of_length_le (by rw [hl]; simp)]
  | x :: xs, i, cells, hl => by
    simp only [List.length_cons] at hl
    have hl' : cells.length = i * K + K + xs.length * K := by rw [hl, Nat.add_mul, Nat.add_mul, Nat.one_mul]; omega
    simp only [List.map_cons, qU, m9]
    rw [if_pos ⟨by simp [V.flatOk, V.cells, h1 x], by simp [V.cells, hC x], by omega⟩]
    have hsl : (splice cells (i * K) (V.agg (C x)).cells).length = cells.length := uA _ _ _ (by simp only [V.cells, hC]; omega)
    rw [aE0 hC h1 xs (i + 1) _ (by rw [hsl, hl]; congr 1; omega)]
    congr 1
    rw [List.flatMap_cons, ← List.append_assoc]
    congr 1
    unfold splice
    simp only [V.cells]
    rw [Nat.add_mul, Nat.one_mul, List.append_assoc, List.take_append, List.take_of_length_le (by rw [List.length_take]; omega), List.length_take, Nat.min_eq_left (by omega), show i * K + K - i * K = K by omega, List.take_append_of_le_length (by rw [hC]; exact Nat.le_refl _), show (C x).take K = C x from List.take_of_length_le (by rw [hC]; exact Nat.le_refl _)]
theorem aBh {len : Nat} {ps : List (Nat × V)} {xs : List α} (hC : ∀ x, (C x).length = K) (h1C : ∀ x, (C x).all V.one = true) (ht : aK P t = some ⟨.slice e, sz, by_, z⟩) (he : aK P e = some ti) (h1 : len * K ≤ 2 ^ 24 ∧ 0 < len ∧ 0 < K) (hK : ti.size = K) (hag : b5 ti.desc = true)
    (hp : qU 0 (xs.map fun x => V.agg (C x)) = ps) (hlen : xs.length = len) (hl : h.length = i) (hh : h ++ [some ⟨e, xs.flatMap C⟩] = h') :
    iI P t len ps h = some (.sl i 0 len K true, h') := by
  subst hK hp
  refine aNO ht he h1 hag ?_ ⟨mK h1C xs, by rw [mZ hC, hlen]⟩ hl hh
  rw [aE0 hC h1C xs 0 _ (by simp [hlen])]
  simp
end
end Go.Vm
set_option linter.unusedSimpArgs false
set_option linter.unusedVariables false
namespace Go.Vm
open Go
end Go.Vm
set_option linter.unusedSimpArgs false
set_option linter.unusedVariables false
namespace Go.Vm
open Go
instance : Inhabited MT := ⟨⟨0, 0, ⟨.bool, 0, 0, default⟩, ⟨.bool, 0, 0, default⟩⟩⟩
theorem u6 {E : Int → V} {n : Nat} {l : List Int} (h : l.length = n) : (List.range n).map (fun i => E (l.getD i 0)) = l.map E := by
  apply List.ext_getElem?
  intro i
  simp only [List.getElem?_map, List.getElem?_range']
  by_cases hi : i < n
  · rw [List.getElem?_range hi, List.getElem?_eq_getElem (by omega)]
    simp [List.getD_eq_getElem?_getD, List.getElem?_eq_getElem (show i < l.length by omega)]
  · rw [List.getElem?_eq_none (by simpa using hi), List.getElem?_eq_none (by omega)]; rfl
theorem aJU {P : Program} {t : TypeId} {ps ps' : List (Nat × V)} {v : V} (h : ps = ps') (hb : rY P t ps' = some v) : rY P t ps = some v := by rw [h]; exact hb
def dG (E : Int → V) (l : List Int) (r : List V) : List V := E (l.getD 0 0) :: E (l.getD 1 0) :: E (l.getD 2 0) :: E (l.getD 3 0) :: r
theorem aMf {E : Int → V} {l : List Int} (h : l.length = 4) (r : List V) : dG E l r = l.map E ++ r := by
  rw [← u6 h]; rfl
theorem uS {E : Int → V} {l : List Int} (h : l.length = 4) : dG E l [] = l.map E := by rw [aMf h]; simp
theorem o8 {f : Nat → Nat} {k : IntKind} {l : List Int} {r : List V} : V.rns f (dG (eI k) l r) = dG (eI k) l (V.rns f r) := rfl
theorem aL7 {vn : Nat → Bool} {E : Int → V} {l : List Int} {r r' : List V} (hr : V.les vn r r') : V.les vn (dG E l r) (dG E l r') := by
  unfold dG
  repeat (first | exact hr | refine V.les_cons (V.le_refl _ _) ?_)
def ar8 (E : Int → V) (l : List Int) (r : List V) : List V := E (l.getD 0 0) :: E (l.getD 1 0) :: E (l.getD 2 0) :: E (l.getD 3 0) :: E (l.getD 4 0) :: E (l.getD 5 0) :: E (l.getD 6 0) :: E (l.getD 7 0) :: r
theorem aMG {E : Int → V} {l : List Int} (h : l.length = 8) (r : List V) : ar8 E l r = l.map E ++ r := by
  rw [← u6 h]; rfl
theorem aLB {E : Int → V} {l : List Int} (h : l.length = 8) : ar8 E l [] = l.map E := by rw [aMG h]; simp
theorem pF {f : Nat → Nat} {k : IntKind} {l : List Int} {r : List V} : V.rns f (ar8 (eI k) l r) = ar8 (eI k) l (V.rns f r) := rfl
theorem aLs {vn : Nat → Bool} {E : Int → V} {l : List Int} {r r' : List V} (hr : V.les vn r r') : V.les vn (ar8 E l r) (ar8 E l r') := by
  unfold ar8
  repeat (first | exact hr | refine V.les_cons (V.le_refl _ _) ?_)
def yA (E : Int → V) (l : List Int) (r : List V) : List V := E (l.getD 0 0) :: E (l.getD 1 0) :: E (l.getD 2 0) :: E (l.getD 3 0) :: E (l.getD 4 0) :: E (l.getD 5 0) :: E (l.getD 6 0) :: E (l.getD 7 0) :: E (l.getD 8 0) :: E (l.getD 9 0) :: E (l.getD 10 0) :: E (l.getD 11 0) :: E (l.getD 12 0) :: E (l.getD 13 0) :: E (l.getD 14 0) :: E (l.getD 15 0) :: E (l.getD 16 0) :: E (l.getD 17 0) :: E (l.getD 18 0) :: E (l.getD 19 0) :: r
theorem aKx {E : Int → V} {l : List Int} (h : l.length = 20) (r : List V) : yA E l r = l.map E ++ r := by
  rw [← u6 h]; rfl
theorem aJ7 {E : Int → V} {l : List Int} (h : l.length = 20) : yA E l [] = l.map E := by rw [aKx h]; simp
theorem mE {f : Nat → Nat} {k : IntKind} {l : List Int} {r : List V} : V.rns f (yA (eI k) l r) = yA (eI k) l (V.rns f r) := rfl
theorem aK4 {vn : Nat → Bool} {E : Int → V} {l : List Int} {r r' : List V} (hr : V.les vn r r') : V.les vn (yA E l r) (yA E l r') := by
  unfold yA
  repeat (first | exact hr | refine V.les_cons (V.le_refl _ _) ?_)
def aO (E : Int → V) (l : List Int) (r : List V) : List V := E (l.getD 0 0) :: E (l.getD 1 0) :: E (l.getD 2 0) :: E (l.getD 3 0) :: E (l.getD 4 0) :: E (l.getD 5 0) :: E (l.getD 6 0) :: E (l.getD 7 0) :: E (l.getD 8 0) :: E (l.getD 9 0) :: E (l.getD 10 0) :: E (l.getD 11 0) :: E (l.getD 12 0) :: E (l.getD 13 0) :: E (l.getD 14 0) :: E (l.getD 15 0) :: E (l.getD 16 0) :: E (l.getD 17 0) :: E (l.getD 18 0) :: E (l.getD 19 0) :: E (l.getD 20 0) :: E (l.getD 21 0) :: E (l.getD 22 0) :: E (l.getD 23 0) :: E (l.getD 24 0) :: E (l.getD 25 0) :: E (l.getD 26 0) :: E (l.getD 27 0) :: E (l.getD 28 0) :: E (l.getD 29 0) :: E (l.getD 30 0) :: E (l.getD 31 0) :: r
theorem aKr {E : Int → V} {l : List Int} (h : l.length = 32) (r : List V) : aO E l r = l.map E ++ r := by
  rw [← u6 h]; rfl
theorem sD {E : Int → V} {l : List Int} (h : l.length = 32) : aO E l [] = l.map E := by rw [aKr h]; simp
theorem mH {f : Nat → Nat} {k : IntKind} {l : List Int} {r : List V} : V.rns f (aO (eI k) l r) = aO (eI k) l (V.rns f r) := rfl
theorem aGo {vn : Nat → Bool} {E : Int → V} {l : List Int} {r r' : List V} (hr : V.les vn r r') : V.les vn (aO E l r) (aO E l r') := by
  unfold aO
  repeat (first | exact hr | refine V.les_cons (V.le_refl _ _) ?_)
theorem aK0 {h h' : Hp} {E : Int → V} {l : List Int} {r r' : List V} (hE : ∀ x, Conv h h' (E x) (E x)) (hr : Convs h h' r r') : Convs h h' (aO E l r) (aO E l r') := by
  unfold aO
  repeat (first | exact hr | refine Convs.cons (hE _) ?_)
def xY (E : Int → V) (l : List Int) (r : List V) : List V := E (l.getD 0 0) :: E (l.getD 1 0) :: E (l.getD 2 0) :: E (l.getD 3 0) :: E (l.getD 4 0) :: E (l.getD 5 0) :: E (l.getD 6 0) :: E (l.getD 7 0) :: E (l.getD 8 0) :: E (l.getD 9 0) :: E (l.getD 10 0) :: E (l.getD 11 0) :: E (l.getD 12 0) :: E (l.getD 13 0) :: E (l.getD 14 0) :: E (l.getD 15 0) :: E (l.getD 16 0) :: E (l.getD 17 0) :: E (l.getD 18 0) :: E (l.getD 19 0) :: E (l.getD 20 0) :: E (l.getD 21 0) :: E (l.getD 22 0) :: E (l.getD 23 0) :: E (l.getD 24 0) :: E (l.getD 25 0) :: E (l.getD 26 0) :: E (l.getD 27 0) :: E (l.getD 28 0) :: E (l.getD 29 0) :: E (l.getD 30 0) :: E (l.getD 31 0) :: E (l.getD 32 0) :: E (l.getD 33 0) :: E (l.getD 34 0) :: E (l.getD 35 0) :: E (l.getD 36 0) :: E (l.getD 37 0) :: E (l.getD 38 0) :: E (l.getD 39 0) :: E (l.getD 40 0) :: E (l.getD 41 0) :: E (l.getD 42 0) :: E (l.getD 43 0) :: E (l.getD 44 0) :: E (l.getD 45 0) :: E (l.getD 46 0) :: E (l.getD 47 0) :: E (l.getD 48 0) :: E (l.getD 49 0) :: E (l.getD 50 0) :: E (l.getD 51 0) :: E (l.getD 52 0) :: E (l.getD 53 0) :: E (l.getD 54 0) :: E (l.getD 55 0) :: E (l.getD 56 0) :: E (l.getD 57 0) :: E (l.getD 58 0) :: E (l.getD 59 0) :: E (l.getD 60 0) :: E (l.getD 61 0) :: E (l.getD 62 0) :: E (l.getD 63 0) :: r
theorem aKF {E : Int → V} {l : List Int} (h : l.length = 64) (r : List V) : xY E l r = l.map E ++ r := by
  rw [← u6 h]; rfl
theorem aKl {E : Int → V} {l : List Int} (h : l.length = 64) : xY E l [] = l.map E := by rw [aKF h]; simp
theorem mO {f : Nat → Nat} {k : IntKind} {l : List Int} {r : List V} : V.rns f (xY (eI k) l r) = xY (eI k) l (V.rns f r) := rfl
theorem aKB {vn : Nat → Bool} {E : Int → V} {l : List Int} {r r' : List V} (hr : V.les vn r r') : V.les vn (xY E l r) (xY E l r') := by
  unfold xY
  repeat (first | exact hr | refine V.les_cons (V.le_refl _ _) ?_)
theorem aI5 {P : Program} (k : IntKind) (n : Int) : unV P .neg (.sc (.int k n)) = some (.sc (.int k (k.wrap (0 - n)))) := rfl
theorem aHK {P : Program} {k : IntKind} (hk : k.signed = false) (n : Int) : unV P .xor (.sc (.int k n)) = some (.sc (.int k (bits .xor k k.max n))) := by
  cases k <;> first | rfl | cases hk
def mkl {α : Type} (by_ : Nat) (z : α) (n c : Int) : Option (List α) := if 0 < n ∧ n ≤ c ∧ c.toNat * by_ ≤ lA then some (List.replicate n.toNat z) else none
theorem mkL {k1 k2 : IntKind} {P : Program} {h h' : Hp} {t e : TypeId} {ti : TI} {i : Nat} {α : Type} {E : α → V} {sz by_ : Nat} {z : Value} {ag : Bool} {j c : Int} {y : α} (ht : aK P t = some ⟨.slice e, sz, by_, z⟩) (he : aK P e = some ti) (h1 : 1 ≤ ti.bytes ∧ ti.size = 1 ∧ ti.zero.cells.size = 1) (hz : ti.zero.cells.toList.map dO = [E y]) (ho : (E y).one = true) (hag : b5 ti.desc = ag) {r : List α}
    (hm : mkl ti.bytes y j c = some r) (hl : h.length = i) (hh : h ++ [some ⟨e, r.map E⟩] = h') : yP P t (.sc (.int k1 j)) (.sc (.int k2 c)) h = some (.sl i 0 r.length 1 ag, h') := by
  obtain ⟨h2, h3, h4⟩ := h1
  unfold mkl at hm
  split at hm
  · rename_i hlim
    injection hm with hm
    subst hm hl hh hag
    simp only [yP, ht, he]
    rw [if_pos ⟨by omega, hlim.2.1, hlim.2.2, h2, by omega, by rw [h4, h3], by rw [hz]; simp [ho]⟩, hz, if_neg (by omega)]
    simp only [h3]
    have : ∀ n, (List.replicate n [E y]).flatten = (List.replicate n y).map E := fun n => by
      induction n with
      | zero => rfl
      | succ n ih => simp only [List.replicate_succ, List.flatten_cons, ih, List.map_cons]; rfl
    rw [this]; simp
  · cases hm
end Go.Vm
set_option linter.unusedSimpArgs false
set_option linter.unusedVariables false
namespace Go.Vm
open Go
theorem zl {a b : Nat} (h : Nat.ble a b = true := by rfl) : a ≤ b := Nat.le_of_ble_eq_true h
theorem zR {p : Prop} (h : p := by first | rfl | (simp only [V.rn, V.rns, iF, iJ] <;> rfl)) : p := h
theorem zG {N n : Nat} {fr fr' : List (Nat × V)} {h h' : Hp} (σ : List Nat)
    (hf : FLe tM (V.rn (sg σ h.length)) fr fr' := by repeat (first | exact FLe.nil | refine FLe.same rfl ?_ | refine FLe.le rfl V.le_nil ?_ | refine FLe.le rfl V.le_row ?_ | refine FLe.le rfl (V.le_arr (fun _ => rfl)) ?_))
    (hh : HLe (sg σ h.length) h σ h' := by repeat (first | exact HLe.nil | refine HLe.dead ?_ | refine HLe.live rfl V.les_nil rfl ?_ | refine HLe.live rfl (aAC (fun _ => rfl) _) (all_map (fun _ => rfl) _) ?_ | refine HLe.live rfl (zX (fun _ => rfl) _) (mK (fun _ => rfl) _) ?_ | refine HLe.live rfl (V.les_refl _ _) rfl ?_))
    (hσ : σ.take N = List.range N := by rfl) (hlt : σ.all (fun b => Nat.blt b h.length) = true := by rfl) (hnd : ndB (lvs σ h') = true := by rfl) : Ghost N (aG n fr) h (aG n fr') h' := Ghost.rn σ hσ hlt hf hh hnd
theorem Ghost.blk {N : Nat} {s : List V} {h : Hp} {b : Nat} {e : TypeId} {cs cs' : List V} (hb : h[b]? = some (some ⟨e, cs⟩)) (hl : V.les tM cs cs') (ho : cs'.all V.one = true) : Ghost N s h s (h.set b (some ⟨e, cs'⟩)) := by
  intro A M a w hN R
  have hbl : b < h.length := (List.getElem?_eq_some_iff.1 hb).1
  have hget : ∀ {j : Nat} {B : Blk}, (h.set b (some ⟨e, cs'⟩))[j]? = some (some B) → ∃ B0, h[j]? = some (some B0) ∧ B0.e = B.e ∧ V.les tM B0.cells B.cells ∧ (∀ c ∈ B.cells, c.one = true) := by
    intro j B hj
    by_cases hij : b = j
    · subst hij
      rw [List.getElem?_set_self hbl] at hj
      obtain rfl := Option.some.inj (Option.some.inj hj)
      exact ⟨_, hb, rfl, hl, List.all_eq_true.1 ho⟩
    · rw [List.getElem?_set_ne hij] at hj
      exact ⟨B, hj, rfl, V.les_refl _ _, (R.hr.blk j B hj).1⟩
  have hlive : ∀ g, cY M (h.set b (some ⟨e, cs'⟩)) g → cY M h g := by
    rintro g ⟨j, B, hj, hm⟩
    obtain ⟨B0, h1, _⟩ := hget hj
    exact ⟨j, B0, h1, hm⟩
  have hX : ∀ g, Xs A M (h.set b (some ⟨e, cs'⟩)) g → Xs A M h g := fun g hx => hx.elim .inl (fun hl => .inr (hlive g hl))
  refine ⟨M, rfl, ⟨⟨by rw [R.hr.len, List.length_set], R.hr.alt, ?_, ?_, R.hr.glob.avoid fun g _ hx => hX g hx⟩, ⟨R.sr.len, fun t x hx => (R.sr.val t x hx).avoid (fun g _ hx => hX g hx)⟩, R.defers⟩, hlive⟩
  · intro j B hj
    obtain ⟨B0, h1, h2, h3, h4⟩ := hget hj
    refine ⟨h4, ?_⟩
    have hlen : B0.cells.length = B.cells.length := V.les_length h3
    rcases (R.hr.blk j B0 h1).2 with ⟨hn, hc0⟩ | ⟨g, ds, hg, hA, hw, hle, hcs⟩
    · exact .inl ⟨hn, List.eq_nil_of_length_eq_zero (by rw [← hlen, hc0]; rfl)⟩
    · refine .inr ⟨g, ds, hg, hA, by rw [← h2, ← hlen]; exact hw, by rw [← hlen]; exact hle, ?_⟩
      rw [← hlen]
      exact (V.les_sound (fun _ hb => by cases hb) _ _ _ h3 hcs).avoid (fun g _ hx => hX g hx)
  · intro i j B C g hi hj mi mj
    obtain ⟨B1, h1, _⟩ := hget hi
    obtain ⟨C1, k1, _⟩ := hget hj
    exact R.hr.inj i j B1 C1 g h1 k1 mi mj
end Go.Vm
set_option linter.unusedSimpArgs false
set_option linter.unusedVariables false
namespace Go.Vm
open Go
def qV {α : Type} (l : List α) (a c : Int) : Option (List α) := if 0 ≤ a ∧ a < c ∧ c ≤ l.length then some ((l.take c.toNat).drop a.toNat) else none
theorem xQ {α : Type} {l x : List α} {a c : Int} (h : qV l a c = some x) : 0 ≤ a ∧ a < c ∧ c ≤ l.length ∧ x = (l.take c.toNat).drop a.toNat ∧ x.length = c.toNat - a.toNat := by
  unfold qV at h
  split at h
  · rename_i hc
    injection h with h
    refine ⟨hc.1, hc.2.1, hc.2.2, h.symm, ?_⟩
    rw [← h, List.length_drop, List.length_take]; omega
  · cases h
theorem aJP {α : Type} {l x : List α} {a c j : Int} {y : α} (h : qV l a c = some x) (hx : cU x j = some y) : l[a.toNat + j.toNat]? = some y := by
  obtain ⟨_, _, _, e, _⟩ := xQ h
  obtain ⟨_, _, h3⟩ := iP hx
  rw [e, List.getElem?_drop, List.getElem?_take] at h3
  split at h3
  · exact h3
  · cases h3
section
variable {P : Program} {h h' : Hp} {t e : TypeId} {ti : TI} {α : Type} {E : α → V} {l x m : List α} {sz by_ b : Nat} {z : Value} {ag : Bool} {lo hi : Option V} {a c j : Int} {y : α} {k : IntKind} {N n : Nat} {i q K : Nat}
theorem aNm (hq : l.length = q) (ht : aK P t = some ⟨.slice e, sz, by_, z⟩) (he : aK P e = some ti) (hK : ti.size = K) (h1 : lT lo = some a) (h2 : rV hi q = some c) (hs : qV l a c = some x) : i0 P t h (.sl b 0 q K ag) lo hi = some (.sl b (a.toNat * K) x.length K ag) := by
  subst hK hq
  obtain ⟨s1, s2, s3, s4, s5⟩ := xQ hs
  simp only [i0, ht, he, h1, h2]
  rw [if_pos ⟨trivial, s1, by omega, s3⟩, s5]
  by_cases h0 : a = 0
  · subst h0; simp
  · rw [if_neg h0, if_pos s2, Nat.zero_add]
theorem aIa (hq : l.length = q) (ht : aK P t = some ⟨.slice e, sz, by_, z⟩) (he : aK P e = some ti) (hK : ti.size = K) (h1 : lT lo = some 0) (h2 : rV hi q = some c) (hs : sub l 0 c = some x) : i0 P t h (.sl b 0 q K ag) lo hi = some (.sl b 0 x.length K ag) := by
  subst hK hq
  unfold sub at hs
  split at hs
  · rename_i hc
    injection hs with hs
    have hl : x.length = c.toNat := by rw [← hs]; simp; omega
    simp only [i0, ht, he, h1, h2]
    rw [if_pos ⟨trivial, by omega, hc.2.1, hc.2.2⟩, if_pos trivial, hl]
  · cases hs
theorem aFR (ht : aK P t = some ⟨.array N e, sz, by_, z⟩) (he : aK P e = some ti) (hsz : ti.size = 1) (hag : b5 ti.desc = ag) (hb : h[b]? = some (some ⟨i, l.map E⟩)) (hl : l.length = N) (hN : N ≤ lA) (h1 : lT lo = some a) (h2 : rV hi N = some c) (hs : qV l a c = some x) : i0 P t h (.ptr b 0) lo hi = some (.sl b (a.toNat * 1) x.length 1 ag) := by
  subst hag
  obtain ⟨s1, s2, s3, s4, s5⟩ := xQ hs
  simp only [i0, ht, he, h1, h2, hb]
  rw [if_pos ⟨by omega, hN, s1, s2, by omega, by simp [hsz, hl]⟩, hsz, s5, Nat.zero_add]
theorem iaY (hq : x.length = q) (ht : aK P t = some ⟨.slice e, sz, by_, z⟩) (he : aK P e = some ti) (hK : ti.size = 1) (hx : cU x j = some y) : f6 P t (.sl b (a.toNat * 1) q 1 ag) (.sc (.int k j)) = some (.ptr b (a.toNat + j.toNat)) := by
  obtain ⟨h2, h3, _⟩ := iP hx
  subst hq
  simp [f6, ht, nQ, he, hK, h2, h3]
theorem ldY (ht : aK P t = some ti) (hd : b5 ti.desc = false) (hb : h[b]? = some (some ⟨i, l.map E⟩)) (hs : qV l a c = some x) (hx : cU x j = some y) : dX P t h (.ptr b (a.toNat + j.toNat)) = some (E y) := by
  have h3 := aJP hs hx
  simp [dX, hb, fU, ht, hd, h3]
theorem apS (ht : aK P t = some ⟨.array N e, sz, by_, z⟩) (hN : 0 < N) (hq : x.length = q) (hx : nM N x = some m) : yL P t (.sl b n q 1 ag) = some (.ptr b n) := by
  unfold nM at hx
  split at hx
  · rename_i hl
    simp only [yL, ht]
    rw [if_pos ⟨hN, by omega⟩]
  · cases hx
theorem aIm (ht : aK P t = some ⟨.array N e, sz, by_, z⟩) (hsz : sz = N) (hb : h[b]? = some (some ⟨i, l.map E⟩)) (hs : qV l a c = some x) (hx : nM N x = some m) : dX P t h (.ptr b (a.toNat * 1)) = some (.agg (m.map E)) := by
  subst hsz
  obtain ⟨s1, s2, s3, s4, s5⟩ := xQ hs
  unfold nM at hx
  split at hx
  · rename_i hl
    injection hx with hx
    simp only [dX, hb, fU, ht, b5, if_true, Nat.mul_one]
    have hlen : sz ≤ ((l.map E).drop a.toNat).length := by simp; omega
    rw [if_pos hlen]
    congr 2
    rw [← hx, s4, List.map_take, List.map_drop, List.map_take, List.drop_take, List.take_take, Nat.min_eq_left (by omega)]
  · cases hx
theorem aNc (hb : h[b]? = some (some ⟨i, l.map E⟩)) (hE : ∀ x, (E x).one = true) (hs : qV l a c = some x) : e7 h 1 (.sl b (a.toNat * 1) x.length 1 ag) = some (x.map E, x.length) := by
  obtain ⟨s1, s2, s3, s4, s5⟩ := xQ hs
  simp only [e7, hb, Nat.mul_one]
  rw [if_pos (by simp; omega)]
  simp only [Option.some.injEq, Prod.mk.injEq, and_true]
  rw [s5, s4, List.map_drop, List.map_take, List.drop_take]
end
theorem Ghost.cut {N n : Nat} {fr : List (Nat × V)} {h : Hp} {b e t q K k : Nat} {ag : Bool} {cs : List V} (hl : a9 n fr (.tmp t) = some (.sl b 0 q K ag)) (hb : h[b]? = some (some ⟨e, cs⟩)) : Ghost N (aG n fr) h (aG n fr) (h.set b (some ⟨e, cs.take k⟩)) := by
  intro A M a w hN R
  have hbl : b < h.length := (List.getElem?_eq_some_iff.1 hb).1
  have hget : ∀ {j : Nat} {B : Blk}, (h.set b (some ⟨e, cs.take k⟩))[j]? = some (some B) → (j = b ∧ B = ⟨e, cs.take k⟩) ∨ (h[j]? = some (some B) ∧ j ≠ b) := by
    intro j B hj
    by_cases hij : b = j
    · subst hij
      rw [List.getElem?_set_self hbl] at hj
      exact .inl ⟨rfl, (Option.some.inj (Option.some.inj hj)).symm⟩
    · rw [List.getElem?_set_ne hij] at hj
      exact .inr ⟨hj, fun hh => hij hh.symm⟩
  have hlive : ∀ g, cY M (h.set b (some ⟨e, cs.take k⟩)) g → cY M h g := by
    rintro g ⟨j, B, hj, hm⟩
    rcases hget hj with ⟨rfl, _⟩ | ⟨h1, _⟩
    · exact ⟨j, _, hb, hm⟩
    · exact ⟨j, B, h1, hm⟩
  have hX : ∀ g, Xs A M (h.set b (some ⟨e, cs.take k⟩)) g → Xs A M h g := fun g hx => hx.elim .inl (fun hl => .inr (hlive g hl))
  refine ⟨M, rfl, ⟨⟨by rw [R.hr.len, List.length_set], R.hr.alt, ?_, ?_, R.hr.glob.avoid fun g _ hx => hX g hx⟩, ⟨R.sr.len, fun t x hx => (R.sr.val t x hx).avoid (fun g _ hx => hX g hx)⟩, R.defers⟩, hlive⟩
  · intro j B hj
    rcases hget hj with ⟨rfl, rfl⟩ | ⟨h1, hne⟩
    · obtain ⟨hone, hcase⟩ := R.hr.blk j _ hb
      refine ⟨fun c hc => hone c (List.mem_of_mem_take hc), ?_⟩
      rcases hcase with ⟨hn, hc0⟩ | ⟨g, ds, hg, hA, hw, hle, hcs⟩
      · simp only at hc0
        subst hc0
        exact .inl ⟨hn, by simp⟩
      · refine .inr ⟨g, ds, hg, hA, ?_, by simp only [List.length_take] at hle ⊢; omega, ?_⟩
        · rcases hw with hw | ⟨es, clock, hm, hok, heq⟩
          · exact .inl hw
          · exfalso
            have hev := cE hl
            simp only [ev] at hev
            have hv := R.sr.val t (.sl j 0 q K ag) hev
            unfold VR at hv
            rcases hv with ⟨hm0, _⟩ | ⟨g', cap, e', sz, hm', _, _, _, _, hshp, _⟩
            · rw [hg] at hm0; cases hm0
            · rw [hg] at hm'
              obtain rfl := Option.some.inj (Option.some.inj hm')
              unfold World.shape? at hshp
              rw [hm] at hshp
              cases hshp
        · have := hcs.take k
          rw [List.take_take] at this
          simp only [List.length_take]
          exact this.avoid (fun g _ hx => hX g hx)
    · obtain ⟨hone, hcase⟩ := R.hr.blk j B h1
      refine ⟨hone, ?_⟩
      rcases hcase with hn | ⟨g, ds, hg, hA, hw, hle, hcs⟩
      · exact .inl hn
      · exact .inr ⟨g, ds, hg, hA, hw, hle, hcs.avoid (fun g _ hx => hX g hx)⟩
  · intro i j B C g hi hj mi mj
    have f : ∀ {j : Nat} {B : Blk}, (h.set b (some ⟨e, cs.take k⟩))[j]? = some (some B) → ∃ B0, h[j]? = some (some B0) := by
      intro j B hj
      rcases hget hj with ⟨e1, _⟩ | ⟨e1, _⟩
      · exact ⟨_, by rw [e1]; exact hb⟩
      · exact ⟨_, e1⟩
    obtain ⟨B1, h1⟩ := f hi
    obtain ⟨C1, k1⟩ := f hj
    exact R.hr.inj i j B1 C1 g h1 k1 mi mj
section
variable {N n b e t q K : Nat} {fr : List (Nat × V)} {h h' : Hp} {ag : Bool} {α : Type} {E : α → V} {C : α → List V} {l x : List α} {c : Int}
theorem Ghost.cutM (hl : a9 n fr (.tmp t) = some (.sl b 0 q 1 ag)) (hb : h[b]? = some (some ⟨e, l.map E⟩)) (hs : sub l 0 c = some x) (hh : h.set b (some ⟨e, x.map E⟩) = h') : Ghost N (aG n fr) h (aG n fr) h' := by
  subst hh
  unfold sub at hs
  split at hs
  · injection hs with hs
    have : x.map E = (l.map E).take c.toNat := by rw [← hs, ← List.map_take]; simp
    rw [this]
    exact Ghost.cut hl hb
  · cases hs
theorem Ghost.cutF (hC : ∀ x, (C x).length = K) (hl : a9 n fr (.tmp t) = some (.sl b 0 q K ag)) (hb : h[b]? = some (some ⟨e, l.flatMap C⟩)) (hs : sub l 0 c = some x) (hh : h.set b (some ⟨e, x.flatMap C⟩) = h') : Ghost N (aG n fr) h (aG n fr) h' := by
  subst hh
  unfold sub at hs
  split at hs
  · injection hs with hs
    have : x.flatMap C = (l.flatMap C).take (c.toNat * K) := by rw [← hs]; simp only [Int.toNat_zero, List.drop_zero]; exact (aEW hC _ _).symm
    rw [this]
    exact Ghost.cut hl hb
  · cases hs
end
abbrev uP (E : Int → V) (x : List Int) : List V := dG E x []
abbrev aBq (E : Int → V) (x : List Int) : List V := aO E x []
@[simp] theorem qM {f : Nat → Nat} {k : IntKind} (l : List (List Int)) : V.rns f (l.flatMap (uP (eI k))) = l.flatMap (uP (eI k)) := fN (fun _ => rfl) l
@[simp] theorem oL {f : Nat → Nat} {k : IntKind} (l : List (List Int)) : V.rns f (l.flatMap (aBq (eI k))) = l.flatMap (aBq (eI k)) := fN (fun _ => rfl) l
theorem aGA {k : IntKind} (l : List Int) : V.softA (.agg (l.map (eI k))) = .agg (l.map (eI k)) := by
  simp only [V.softA, List.map_map]
  rfl
theorem aLc {P : Program} {t : TypeId} {n : Nat} {ps ps' : List (Nat × V)} {h : Hp} {r : V × Hp} (e : ps = ps') (hb : iI P t n ps' h = some r) : iI P t n ps h = some r := by rw [e]; exact hb
theorem Conv.rowKA {C : List Int → List V} {E : Int → V} {K : Nat} {l : List (List Int)} (hC : ∀ x, (C x).length = K) (h1K : ∀ x, (C x).all V.one = true) (hsh : ∀ x, (C x).all V.shut = true) (hcx : ∀ x ∈ l, C x = x.map E) {h h' : Hp} (hs : Sub h h') {b n : Nat} {e : TypeId} (hb : h[b]? = some (some ⟨e, l.flatMap C⟩)) (hb' : h'[b]? = some none) (hn : n = l.length) : Conv h h' (.sl b 0 n K true) (.row none K (l.map (eA E))) := by
  have := Conv.rowK hC h1K hsh hs hb hb' hn
  rwa [show (l.map fun x => V.agg (C x)) = l.map (eA E) from List.map_congr_left fun x hx => by rw [hcx x hx]] at this
theorem AB.scope {P : Program} {N : Nat} {Q : Ex → List V → Hp → Prop} {s : List V} {h : Hp} {c : Code} (hh : AB P N c Q s h) : AB P N (.scope c) Q s h := by
  intro A M0 M h0 w0 a w hN hM G R
  refine wp_scope_straight (Code.wp_mono (fun e a' w' ⟨x, s1, h1, M1, he, hq, G1, R1⟩ => ?_) (hh A M0 M h0 w0 a w hN hM G R))
  subst he
  cases x with
  | normal => exact ⟨.normal, s1, h1, M1, rfl, hq, G1, R1⟩
  | exit i => exact ⟨.exit i, s1, h1, M1, rfl, hq, G1, R1⟩
  | ret => exact ⟨.ret, s1, h1, M1, rfl, hq, G1, R1⟩
theorem AB.label {P : Program} {N : Nat} {Q : Ex → List V → Hp → Prop} {s : List V} {h : Hp} {l : Nat} (hq : Q .normal s h) : AB P N (.label l) Q s h := by
  intro A M0 M h0 w0 a w hN hM G R
  exact wp_label ⟨.normal, s, h, M, rfl, hq, G, R⟩
def o5 (x y c : Int) : Option (Int × Int) := if c.toNat ≤ 1 then some ((((x.toNat + y.toNat + c.toNat) % 18446744073709551616 : Nat) : Int), (((x.toNat + y.toNat + c.toNat) / 18446744073709551616 : Nat) : Int)) else none
def aAH (x y c : Int) : Option (Int × Int) := if c.toNat ≤ 1 then some ((((x.toNat + 18446744073709551616 - y.toNat - c.toNat) % 18446744073709551616 : Nat) : Int), ((if x.toNat < y.toNat + c.toNat then 1 else 0 : Nat) : Int)) else none
def aNK : Array Value → Sem Value := (Extern.MathBitsCarry.rows.get ⟨0, by decide⟩).2
def aND : Array Value → Sem Value := (Extern.MathBitsCarry.rows.get ⟨1, by decide⟩).2
theorem aKA {P : Program} {f : FuncId} {fn : Func} (hf : P.funcs[f]? = some fn) (hn : (fn.name == "runtime.NumGoroutine") = false) (hb : fn.body.isNone = true) (h1 : Extern.findNext fn = none) (h2 : Extern.find fn = some aNK) {x y c : Int} {r : Int × Int} (hr : o5 x y c = some r) : Fn P f [] [eI .u64 x, eI .u64 y, eI .u64 c] (.tup [eI .u64 r.1, eI .u64 r.2]) [] := by
  unfold o5 at hr
  split at hr
  · rename_i hc
    injection hr with hr
    subst hr
    refine aIQ hf hn hb h1 h2 fun X M w vs hv => ?_
    unfold VCells at hv
    obtain ⟨v, rest, rfl, hv, hr⟩ := hv
    unfold VCells at hr
    obtain ⟨u, rest, rfl, hu, hr⟩ := hr
    unfold VCells at hr
    obtain ⟨z, rest, rfl, hz, hr⟩ := hr
    unfold VCells at hr
    subst hr
    unfold VR at hv hu hz
    subst hv hu hz
    have hgt : ¬ c.toNat > 1 := by omega
    refine ⟨.tuple #[.int .u64 (((x.toNat + y.toNat + c.toNat) % 18446744073709551616 : Nat) : Int), .int .u64 (((x.toNat + y.toNat + c.toNat) / 18446744073709551616 : Nat) : Int)], ?_, ?_⟩
    · match c, hgt with
      | .ofNat 0, _ => rfl
      | .ofNat 1, _ => rfl
      | .ofNat (k + 2), hgt => exact absurd (show (Int.ofNat (k + 2)).toNat > 1 by simp; omega) hgt
      | .negSucc k, _ => rfl
    · unfold VR
      exact ⟨_, rfl, by unfold VCells; exact ⟨_, _, rfl, by unfold VR; rfl, by unfold VCells; exact ⟨_, _, rfl, by unfold VR; rfl, by unfold VCells; rfl⟩⟩⟩
  · cases hr
theorem aJ2 {P : Program} {f : FuncId} {fn : Func} (hf : P.funcs[f]? = some fn) (hn : (fn.name == "runtime.NumGoroutine") = false) (hb : fn.body.isNone = true) (h1 : Extern.findNext fn = none) (h2 : Extern.find fn = some aND) {x y c : Int} {r : Int × Int} (hr : aAH x y c = some r) : Fn P f [] [eI .u64 x, eI .u64 y, eI .u64 c] (.tup [eI .u64 r.1, eI .u64 r.2]) [] := by
  unfold aAH at hr
  split at hr
  · rename_i hc
    injection hr with hr
    subst hr
    refine aIQ hf hn hb h1 h2 fun X M w vs hv => ?_
    unfold VCells at hv
    obtain ⟨v, rest, rfl, hv, hr⟩ := hv
    unfold VCells at hr
    obtain ⟨u, rest, rfl, hu, hr⟩ := hr
    unfold VCells at hr
    obtain ⟨z, rest, rfl, hz, hr⟩ := hr
    unfold VCells at hr
    subst hr
    unfold VR at hv hu hz
    subst hv hu hz
    have hgt : ¬ c.toNat > 1 := by omega
    refine ⟨.tuple #[.int .u64 (((x.toNat + 18446744073709551616 - y.toNat - c.toNat) % 18446744073709551616 : Nat) : Int), .int .u64 ((if x.toNat < y.toNat + c.toNat then 1 else 0 : Nat) : Int)], ?_, ?_⟩
    · match c, hgt with
      | .ofNat 0, _ => rfl
      | .ofNat 1, _ => rfl
      | .ofNat (k + 2), hgt => exact absurd (show (Int.ofNat (k + 2)).toNat > 1 by simp; omega) hgt
      | .negSucc k, _ => rfl
    · unfold VR
      exact ⟨_, rfl, by unfold VCells; exact ⟨_, _, rfl, by unfold VR; rfl, by unfold VCells; exact ⟨_, _, rfl, by unfold VR; rfl, by unfold VCells; rfl⟩⟩⟩
  · cases hr
end Go.Vm
set_option linter.unusedSimpArgs false
set_option linter.unusedVariables false
namespace Go.Vm
open Go
theorem sj {α : Type} {a b : α} (h : some a = some b) : a = b := Option.some.inj h
section
variable {P : Program} {ops : Array Oper} {l : List Oper} {n N : Nat} {fr : List (Nat × V)} {h h' h1 : Hp} {K : List V → Hp → Prop} {op : Op} {ty : TypeId} {pos : String} {aft : Array Edge} {t : Nat} {v c d : V} {x y z : Operand} {Q : Ex → List V → Hp → Prop} {ty' u : TypeId}
variable {j w : Nat} {want b : Bool}
theorem zg (hc : b = want) (hd : aY P O0 ⟨some t, op, ty, pos, aft, some (j, want)⟩ (aG n fr) h = some (v, h')) (q : OpsW P N ops l (aG n ((t, v) :: fr)) h' K) (hj : (ops[j]?).bind (·.dst) = some w := by rfl) (hl : a9 n fr (.tmp w) = some (.sc (.bool b)) := by rfl) : OpsW P N ops (⟨some t, op, ty, pos, aft, some (j, want)⟩ :: l) (aG n fr) h K := wS (cD hj hl hc hd) q
theorem zk {co : Operand} {X Y : Code} {α : Type} {A B : Option α} {r : α} (hr : (if b = true then A else B) = some r) (hc : a9 n fr co = some (.sc (.bool b))) (g1 : b = true → A = some r → AB P N X Q (aG n fr) h) (g2 : b = false → B = some r → AB P N Y Q (aG n fr) h) : AB P N (.cond co X Y) Q (aG n fr) h := AB.cnd hc (fun e => g1 e (fM hr e)) (fun e => g2 e (fQ hr e))
theorem zf {f : FuncId} {fn : Func} {co : Code} {args : List V} {r : V} (hf : P.funcs[f]? = some fn) (hnt : fn.ntmps = n) (hh : AB P N co (zD P fn N r h') (aG n fr) h) (hb : fn.body = some co := by rfl) (hn : (fn.name == "runtime.NumGoroutine") = false := by kernel_rfl) (hal : args.length ≤ n := by exact zl) (hN : h.length = N := by rfl) (hfr : num 0 args = fr := by (simp only [num, Nat.reduceAdd, Nat.zero_add] <;> rfl)) : Fn P f h args r h' := aOa hf hb hn hnt hal hN hfr hh
variable {F G : FuncId → Bool} {m : Nat} {listed : Array Bool} {s : List V} {o : Oper} {s1 : List V}
end
section
variable {P : Program} {fn : Func} {n N : Nat} {fr : List (Nat × V)} {h h' : Hp} {r a b c : V} {t u w : Nat}
theorem bO (hr : fn.results = #[.tmp t]) (σ : List Nat) (hx : a9 n fr (.tmp t) = some a := by rfl) (hf : FLe tM (V.rn (sg σ h.length)) [(0, a)] [(0, r)] := by repeat (first | exact FLe.nil | refine FLe.same rfl ?_ | refine FLe.le rfl V.le_nil ?_ | refine FLe.le rfl V.le_row ?_ | refine FLe.le rfl (V.le_arr (fun _ => rfl)) ?_)) (hh : HLe (sg σ h.length) h σ h' := by repeat (first | exact HLe.nil | refine HLe.dead ?_ | refine HLe.live rfl V.les_nil rfl ?_ | refine HLe.live rfl (aAC (fun _ => rfl) _) (all_map (fun _ => rfl) _) ?_ | refine HLe.live rfl (zX (fun _ => rfl) _) (mK (fun _ => rfl) _) ?_ | refine HLe.live rfl (V.les_refl _ _) rfl ?_)) (hσ : σ.take N = List.range N := by rfl) (hlt : σ.all (fun b => Nat.blt b h.length) = true := by rfl) (hnd : ndB (lvs σ h') = true := by rfl) : zD P fn N r h' .ret (aG n fr) h := wB (aNl hr (rvT hx)) (Ghost.rn σ hσ hlt hf hh hnd)
theorem zd2 (hr : fn.results = #[.tmp t, .tmp u]) (σ : List Nat) (hx : a9 n fr (.tmp t) = some a := by rfl) (hy : a9 n fr (.tmp u) = some b := by rfl) (hf : FLe tM (V.rn (sg σ h.length)) [(0, (.tup [a, b]))] [(0, r)] := by repeat (first | exact FLe.nil | refine FLe.same rfl ?_ | refine FLe.le rfl V.le_nil ?_ | refine FLe.le rfl V.le_row ?_ | refine FLe.le rfl (V.le_arr (fun _ => rfl)) ?_)) (hh : HLe (sg σ h.length) h σ h' := by repeat (first | exact HLe.nil | refine HLe.dead ?_ | refine HLe.live rfl V.les_nil rfl ?_ | refine HLe.live rfl (aAC (fun _ => rfl) _) (all_map (fun _ => rfl) _) ?_ | refine HLe.live rfl (zX (fun _ => rfl) _) (mK (fun _ => rfl) _) ?_ | refine HLe.live rfl (V.les_refl _ _) rfl ?_)) (hσ : σ.take N = List.range N := by rfl) (hlt : σ.all (fun b => Nat.blt b h.length) = true := by rfl) (hnd : ndB (lvs σ h') = true := by rfl) : zD P fn N r h' .ret (aG n fr) h := wB (bD hr (rvT hx) (rvT hy)) (Ghost.rn σ hσ hlt hf hh hnd)
theorem zd3 (hr : fn.results = #[.tmp t, .tmp u, .tmp w]) (σ : List Nat) (hx : a9 n fr (.tmp t) = some a := by rfl) (hy : a9 n fr (.tmp u) = some b := by rfl) (hz : a9 n fr (.tmp w) = some c := by rfl) (hf : FLe tM (V.rn (sg σ h.length)) [(0, (.tup [a, b, c]))] [(0, r)] := by repeat (first | exact FLe.nil | refine FLe.same rfl ?_ | refine FLe.le rfl V.le_nil ?_ | refine FLe.le rfl V.le_row ?_ | refine FLe.le rfl (V.le_arr (fun _ => rfl)) ?_)) (hh : HLe (sg σ h.length) h σ h' := by repeat (first | exact HLe.nil | refine HLe.dead ?_ | refine HLe.live rfl V.les_nil rfl ?_ | refine HLe.live rfl (aAC (fun _ => rfl) _) (all_map (fun _ => rfl) _) ?_ | refine HLe.live rfl (zX (fun _ => rfl) _) (mK (fun _ => rfl) _) ?_ | refine HLe.live rfl (V.les_refl _ _) rfl ?_)) (hσ : σ.take N = List.range N := by rfl) (hlt : σ.all (fun b => Nat.blt b h.length) = true := by rfl) (hnd : ndB (lvs σ h') = true := by rfl) : zD P fn N r h' .ret (aG n fr) h := wB (u4 hr (rvT hx) (rvT hy) (rvT hz)) (Ghost.rn σ hσ hlt hf hh hnd)
end
end Go.Vm
set_option linter.unusedSimpArgs false
set_option linter.unusedVariables false
namespace Go.Vm
open Go
def OpsG (P : Program) (F G : FuncId → Bool) (ops : Array Oper) : List Oper → List V → Hp → (List V → Hp → Prop) → Prop
  | [], s, h, K => K s h
  | o :: l, s, h, K => ∃ s1 h1, StepR P F G ops o s h s1 h1 ∧ OpsG P F G ops l s1 h1 K
def OpsX (P : Program) (N : Nat) (m : Option (List Nat × List Nat)) (ops : Array Oper) (l : List Oper) (s : List V) (h : Hp) (K : List V → Hp → Prop) : Prop :=
  match m with
  | none => OpsW P N ops l s h K
  | some (F, G) => OpsG P (dN F) (dN G) ops l s h K
def aDI (l : List Oper) : List Nat → List Oper
  | [] => []
  | i :: s => match l[i]? with
    | some o => o :: aDI l s
    | none => []
def aBI (F G : FuncId → Bool) (ops : Array Oper) : List Nat → Array Bool → Bool
  | [], _ => true
  | i :: s, L => aEi F G ops L i && (ops.toList[i]?).isSome && aBI F G ops s (L.setIfInBounds i true)
def aBl : List Nat → Array Bool → Array Bool
  | [], L => L
  | i :: s, L => aBl s (L.setIfInBounds i true)
theorem aAj {P : Program} {N : Nat} {F G : FuncId → Bool} {ops : Array Oper} {K : List V → Hp → Prop} {m : Nat} : ∀ (sc : List Nat) (L : Array Bool) (s : List V) (h : Hp), aBI F G ops sc L = true →
    OpsG P F G ops (aDI ops.toList sc) s h (fun s h => DrawG P N F G ops m (aBl sc L) s h K) → DrawG P N F G ops (m + sc.length) L s h K
  | [], L, s, h, _, hk => hk
  | i :: sc, L, s, h, hb, hk => by
    simp only [aBI, Bool.and_eq_true] at hb
    obtain ⟨⟨h1, h2⟩, h3⟩ := hb
    obtain ⟨o, ho⟩ := Option.isSome_iff_exists.1 h2
    simp only [aDI, ho] at hk
    obtain ⟨s1, g1, e, hk⟩ := hk
    refine DrawG.pick h1 (o := o) (by simpa using ho) e ?_
    exact aAj sc _ s1 g1 h3 hk
def aCf (F G : FuncId → Bool) (ops : Array Oper) : List (List Nat) → Array Bool → Bool
  | [], L => (fE ops.size L).isEmpty
  | [a], L => aBI F G ops a L && (fE ops.size (aBl a L)).isEmpty
  | a :: b :: ss, L => aBI F G ops a L && aGy ops (aBl a L) && !b.isEmpty && aCf F G ops (b :: ss) (aBl a L)
def aKy (P : Program) (N : Nat) (F G : List Nat) (ops : Array Oper) : List (List Nat) → List V → Hp → (List V → Hp → Prop) → Prop
  | [], s, h, K => K s h
  | [a], s, h, K => OpsX P N (some (F, G)) ops (aDI ops.toList a) s h K
  | a :: b :: ss, s, h, K => OpsX P N (some (F, G)) ops (aDI ops.toList a) s h (fun s h => ∃ s' h', Ghost N s h s' h' ∧ aKy P N F G ops (b :: ss) s' h' K)
theorem OpsG.mono {P : Program} {F G : FuncId → Bool} {ops : Array Oper} {K K' : List V → Hp → Prop} : ∀ {l : List Oper} {s : List V} {h : Hp}, OpsG P F G ops l s h K → (∀ s h, K s h → K' s h) → OpsG P F G ops l s h K'
  | [], _, _, hk, hm => hm _ _ hk
  | _ :: _, _, _, ⟨s1, h1, e, hk⟩, hm => ⟨s1, h1, e, hk.mono hm⟩
theorem aB4 {P : Program} {N : Nat} {F G : List Nat} {ops : Array Oper} {K : List V → Hp → Prop} : ∀ (ss : List (List Nat)) (L : Array Bool) (s : List V) (h : Hp), aCf (dN F) (dN G) ops ss L = true →
    aKy P N F G ops ss s h K → DrawG P N (dN F) (dN G) ops (ss.map List.length).sum L s h K
  | [], L, s, h, hb, hk => DrawG.nil (List.isEmpty_iff.1 hb) hk
  | [a], L, s, h, hb, hk => by
    simp only [aCf, Bool.and_eq_true] at hb
    have := aAj (N := N) (m := 0) a L s h hb.1 (OpsG.mono (K' := fun s h => DrawG P N (dN F) (dN G) ops 0 (aBl a L) s h K) hk fun s h hk => DrawG.nil (List.isEmpty_iff.1 hb.2) hk)
    simpa using this
  | a :: b :: ss, L, s, h, hb, hk => by
    simp only [aCf, Bool.and_eq_true] at hb
    obtain ⟨⟨⟨h1, h2⟩, h3⟩, h4⟩ := hb
    have := aAj (N := N) (m := ((b :: ss).map List.length).sum) a L s h h1 (OpsG.mono (K' := fun s h => DrawG P N (dN F) (dN G) ops ((b :: ss).map List.length).sum (aBl a L) s h K) hk fun s h ⟨s', h', hg, hk⟩ => by
      have hd := aB4 (b :: ss) _ s' h' h4 hk
      obtain ⟨x, xs, rfl⟩ : ∃ x xs, b = x :: xs := by
        cases b with
        | nil => cases h3
        | cons x xs => exact ⟨x, xs, rfl⟩
      simp only [List.map_cons, List.length_cons, List.sum_cons, Nat.add_right_comm _ 1] at hd ⊢
      exact DrawG.gh h2 hg hd)
    simpa [Nat.add_comm] using this
theorem AB.rs {P : Program} {N : Nat} {Q : Ex → List V → Hp → Prop} {s : List V} {h : Hp} (hm : P.follows .mixedOrders = true) (F G : List Nat) (ss : List (List Nat)) {id : Nat} {l : List Oper} (hr : aKy P N F G l.toArray ss s h (Q .normal))
    (hb : (aCf (dN F) (dN G) l.toArray ss (Array.replicate l.toArray.size false) && (ss.map List.length).sum == l.toArray.size) = true := by decide +kernel) : AB P N (.region id l.toArray true) Q s h := by
  simp only [Bool.and_eq_true, beq_iff_eq] at hb
  refine AB.rd (dN F) (dN G) hm ?_
  have := aB4 ss _ s h hb.1 hr
  rw [hb.2] at this
  exact this
section
variable {P : Program} {N n t : Nat} {m : Option (List Nat × List Nat)} {ops : Array Oper} {l : List Oper} {fr : List (Nat × V)} {h h' : Hp} {K : List V → Hp → Prop} {op : Op} {ty : TypeId} {pos : String} {aft : Array Edge} {gd : Option (Nat × Bool)} {v a b : V} {x y z : Operand} {Q : Ex → List V → Hp → Prop} {s : List V}
theorem OpsX.nil (hk : K s h) : OpsX P N m ops [] s h K := by
  cases m with
  | none => exact OpsW.nil hk
  | some p => exact hk
theorem xS0 (hs : bZ P O0 ops ⟨some t, op, ty, pos, aft, gd⟩ (aG n fr) h = some (v, h')) (k : OpsX P N m ops l (aG n ((t, v) :: fr)) h' K) : OpsX P N m ops (⟨some t, op, ty, pos, aft, gd⟩ :: l) (aG n fr) h K := by
  cases m with
  | none => exact wS hs k
  | some p => exact ⟨_, _, gS hs, k⟩
theorem xN0 (hs : bZ P O0 ops ⟨none, op, ty, pos, aft, gd⟩ (aG n fr) h = some (v, h')) (k : OpsX P N m ops l (aG n fr) h' K) : OpsX P N m ops (⟨none, op, ty, pos, aft, gd⟩ :: l) (aG n fr) h K := by
  cases m with
  | none => exact wN hs k
  | some p => exact ⟨_, _, gN hs, k⟩
theorem xq {c : Code} {id : Nat} (hr : OpsX P N none l.toArray l s h (Ex.then (AB P N c Q) Q .normal)) : AB P N (.seq (.region id l.toArray false) c) Q s h := AB.seq (AB.rw hr)
theorem xr {id : Nat} (hr : OpsX P N none l.toArray l s h (Q .normal)) : AB P N (.region id l.toArray false) Q s h := AB.rw hr
def Gd (ops : Array Oper) (n : Nat) (fr : List (Nat × V)) : Option (Nat × Bool) → Prop
  | none => True
  | some (j, w) => ∃ u, (ops[j]?).bind (·.dst) = some u ∧ ∃ c, a9 n fr (.tmp u) = some (.sc (.bool c)) ∧ c = w
theorem Gd.step {dd : Option Tmp} {r : V × Hp} (hg : Gd ops n fr gd) (hd : aY P O0 ⟨dd, op, ty, pos, aft, gd⟩ (aG n fr) h = some r) : bZ P O0 ops ⟨dd, op, ty, pos, aft, gd⟩ (aG n fr) h = some r := by
  obtain ⟨v, h1⟩ := r
  cases gd with
  | none => exact sv hd
  | some p =>
    obtain ⟨j, w⟩ := p
    obtain ⟨u, hu, c, hc, he⟩ := hg
    exact cD hu hc he hd
theorem xS (hd : aY P O0 ⟨some t, op, ty, pos, aft, gd⟩ (aG n fr) h = some (v, h')) (k : OpsX P N m ops l (aG n ((t, v) :: fr)) h' K) (hg : Gd ops n fr gd := by first | exact True.intro | exact ⟨_, rfl, _, rfl, by assumption⟩) : OpsX P N m ops (⟨some t, op, ty, pos, aft, gd⟩ :: l) (aG n fr) h K := xS0 (hg.step hd) k
theorem xN (hd : aY P O0 ⟨none, op, ty, pos, aft, gd⟩ (aG n fr) h = some (v, h')) (k : OpsX P N m ops l (aG n fr) h' K) (hg : Gd ops n fr gd := by first | exact True.intro | exact ⟨_, rfl, _, rfl, by assumption⟩) : OpsX P N m ops (⟨none, op, ty, pos, aft, gd⟩ :: l) (aG n fr) h K := xN0 (hg.step hd) k
theorem xw (hd : aY P O0 ⟨some t, op, ty, pos, aft, none⟩ (aG n fr) h = some (v, h')) (k : OpsX P N m ops l (aG n ((t, v) :: fr)) h' K) : OpsX P N m ops (⟨some t, op, ty, pos, aft, none⟩ :: l) (aG n fr) h K := xS0 (sv hd) k
theorem xy (hd : aY P O0 ⟨none, op, ty, pos, aft, none⟩ (aG n fr) h = some (v, h')) (k : OpsX P N m ops l (aG n fr) h' K) : OpsX P N m ops (⟨none, op, ty, pos, aft, none⟩ :: l) (aG n fr) h K := xN0 (sv hd) k
theorem xC {f : FuncId} {ts : Array TypeId} {ws : List Operand} {xs : List V} (hx : oT n fr ws = some xs) (hc : Fn P f h xs v h') (k : OpsX P N none ops l (aG n ((t, v) :: fr)) h' K) : OpsX P N none ops (⟨some t, .call ⟨.value (.func f), ws.toArray, ts⟩, ty, pos, aft, none⟩ :: l) (aG n fr) h K := wC hx hc k
theorem xCg {f : FuncId} {ts : Array TypeId} {ws : List Operand} {xs : List V} {jj ww : Nat} {want cc : Bool} (hj : (ops[jj]?).bind (·.dst) = some ww) (hl : a9 n fr (.tmp ww) = some (.sc (.bool cc))) (hb : cc = want) (hx : oT n fr ws = some xs) (hc : Fn P f h xs v h') (k : OpsX P N none ops l (aG n ((t, v) :: fr)) h' K) : OpsX P N none ops (⟨some t, .call ⟨.value (.func f), ws.toArray, ts⟩, ty, pos, aft, some (jj, want)⟩ :: l) (aG n fr) h K := wCG hj hl hb hx hc k
theorem xG {f : FuncId} {F G : List Nat} {ts : Array TypeId} {ws : List Operand} {xs : List V} (hx : oT n fr ws = some xs) (hc : Fn P f h xs v h') (k : OpsX P N (some (F, G)) ops l (aG n ((t, v) :: fr)) h' K) (hF : dN F f = false := by rfl) (hG : dN G f = true → ∃ news, h' = h ++ news := by first | exact (fun _ => ⟨_, rfl⟩) | exact (fun _ => ⟨[], (List.append_nil _).symm⟩) | exact (fun h => absurd h (by decide))) (hg : Gd ops n fr gd := by first | exact True.intro | exact ⟨_, rfl, _, rfl, by assumption⟩) : OpsX P N (some (F, G)) ops (⟨some t, .call ⟨.value (.func f), ws.toArray, ts⟩, ty, pos, aft, gd⟩ :: l) (aG n fr) h K := by
  refine ⟨_, _, gC hc hF hG ?_, k⟩
  cases gd with
  | none => exact sv (d6 hx gL)
  | some p =>
    obtain ⟨j, w⟩ := p
    obtain ⟨u, hu, c, hb, he⟩ := hg
    exact cD hu hb he (d6 hx gL)
theorem xU {f : FuncId} {F G : List Nat} {ts : Array TypeId} {ws : List Operand} {xs : List V} (hx : oT n fr ws = some xs) (hc : ∀ h, Fn P f h xs v h) (k : OpsX P N (some (F, G)) ops l (aG n ((t, v) :: fr)) h K) (hG : dN G f = false := by rfl) (hg : Gd ops n fr gd := by first | exact True.intro | exact ⟨_, rfl, _, rfl, by assumption⟩) : OpsX P N (some (F, G)) ops (⟨some t, .call ⟨.value (.func f), ws.toArray, ts⟩, ty, pos, aft, gd⟩ :: l) (aG n fr) h K := by
  refine ⟨_, _, gU hc hG ?_, k⟩
  cases gd with
  | none => exact sv (d6 hx kL)
  | some p =>
    obtain ⟨j, w⟩ := p
    obtain ⟨u, hu, c, hb, he⟩ := hg
    exact cD hu hb he (d6 hx kL)
variable {j w : Nat} {want c : Bool}
theorem xX (hc : c = !want) (k : OpsX P N m ops l (aG n ((t, .sc undef) :: fr)) h K) (hj : (ops[j]?).bind (·.dst) = some w := by rfl) (hl : a9 n fr (.tmp w) = some (.sc (.bool c)) := by rfl) : OpsX P N m ops (⟨some t, op, ty, pos, aft, some (j, want)⟩ :: l) (aG n fr) h K := xS0 (bK hj hl hc) k
theorem xSg (hj : (ops[j]?).bind (·.dst) = some w) (hl : a9 n fr (.tmp w) = some (.sc (.bool c))) (hc : c = want) (hd : aY P O0 ⟨some t, op, ty, pos, aft, some (j, want)⟩ (aG n fr) h = some (v, h')) (k : OpsX P N m ops l (aG n ((t, v) :: fr)) h' K) : OpsX P N m ops (⟨some t, op, ty, pos, aft, some (j, want)⟩ :: l) (aG n fr) h K := xS0 (cD hj hl hc hd) k
theorem OpsX.ghost {s' : List V} (hg : Ghost N s h s' h') (k : OpsX P N none ops l s' h' K) : OpsX P N none ops l s h K := OpsW.ghost hg k
end
end Go.Vm
set_option linter.unusedSimpArgs false
set_option linter.unusedVariables false
namespace Go.Vm
open Go
theorem gD {p : Prop} (h : p := by first | exact True.intro | exact ⟨_, rfl, _, rfl, by assumption⟩) : p := h
inductive LSet {α : Type} : List α → Nat → α → List α → Prop
  | z {a b : α} {l : List α} : LSet (a :: l) 0 b (b :: l)
  | s {a b : α} {l l' : List α} {i : Nat} : LSet l i b l' → LSet (a :: l) (i + 1) b (a :: l')
theorem LSet.eq {α : Type} {l l' : List α} {i : Nat} {b : α} (h : LSet l i b l') : l.set i b = l' := by
  induction h with
  | z => rfl
  | s _ ih => rw [List.set_cons_succ, ih]
inductive Snoc {α : Type} : List α → α → List α → Prop
  | n {b : α} : Snoc [] b [b]
  | c {a b : α} {l l' : List α} : Snoc l b l' → Snoc (a :: l) b (a :: l')
theorem Snoc.eq {α : Type} {l l' : List α} {b : α} (h : Snoc l b l') : l ++ [b] = l' := by
  induction h with
  | n => rfl
  | c _ ih => rw [List.cons_append, ih]
inductive IsA : (List V → List V) → Nat → Prop
  | c {a : V} : IsA (List.cons a) 1
  | a4 {k : IntKind} {q : List Int} : IsA (dG (eI k) q) 4
  | a8 {k : IntKind} {q : List Int} : IsA (ar8 (eI k) q) 8
  | a20 {k : IntKind} {q : List Int} : IsA (yA (eI k) q) 20
  | a32 {k : IntKind} {q : List Int} : IsA (aO (eI k) q) 32
  | a64 {k : IntKind} {q : List Int} : IsA (xY (eI k) q) 64
theorem IsA.eq {A : List V → List V} {n : Nat} (h : IsA A n) : ∃ p : List V, p.length = n ∧ ∀ r, A r = p ++ r := by
  cases h with
  | c => exact ⟨[_], rfl, fun _ => rfl⟩
  | a4 => exact ⟨dG _ _ [], rfl, fun _ => rfl⟩
  | a8 => exact ⟨ar8 _ _ [], rfl, fun _ => rfl⟩
  | a20 => exact ⟨yA _ _ [], rfl, fun _ => rfl⟩
  | a32 => exact ⟨aO _ _ [], rfl, fun _ => rfl⟩
  | a64 => exact ⟨xY _ _ [], rfl, fun _ => rfl⟩
inductive Spl : List V → Nat → List V → List V → Prop
  | w {l r : List V} : r.length = l.length → Spl l 0 r r
  | d {l : List V} : Spl l 0 [] l
  | p {A B : List V → List V} {n : Nat} {l r l' : List V} : IsA A n → IsA B n → Spl l 0 r l' → Spl (A l) 0 (B r) (B l')
  | s {A : List V → List V} {n : Nat} {l r l' : List V} {o o' : Nat} : IsA A n → o' = o + n → Spl l o r l' → Spl (A l) o' r (A l')
theorem Spl.eq {l r l' : List V} {o : Nat} (h : Spl l o r l') : splice l o r = l' := by
  induction h with
  | w h => simp [splice, h]
  | d => simp [splice]
  | p hA hB _ ih =>
    obtain ⟨p, hp, e⟩ := hA.eq
    obtain ⟨q, hq, e'⟩ := hB.eq
    simp only [splice, List.take_zero, List.nil_append, Nat.zero_add] at ih ⊢
    rw [e, e', e', ← ih, List.length_append, hq, ← hp, List.drop_append, List.drop_eq_nil_of_le (by omega), List.nil_append, Nat.add_sub_cancel_left, List.append_assoc]
  | @s A n l r l' o o' hA he _ ih =>
    subst he
    obtain ⟨p, hp, e⟩ := hA.eq
    simp only [splice] at ih ⊢
    have h1 : (p ++ l).take (o + n) = p ++ l.take o := by rw [List.take_append, List.take_of_length_le (by omega), show o + n - p.length = o by omega]
    have h2 : (p ++ l).drop (o + n + r.length) = l.drop (o + r.length) := by rw [List.drop_append, List.drop_eq_nil_of_le (by omega), List.nil_append, show o + n + r.length - p.length = o + r.length by omega]
    rw [e, e, h1, h2, ← ih, List.append_assoc, List.append_assoc, List.append_assoc]
inductive Tak : List V → Nat → Nat → List V → Prop
  | w {l : List V} {k : Nat} : l.length = k → Tak l 0 k l
  | d {l : List V} : Tak l 0 0 []
  | t {A : List V → List V} {n : Nat} {l r : List V} {k k' : Nat} : IsA A n → k' = k + n → Tak l 0 k r → Tak (A l) 0 k' (A r)
  | s {A : List V → List V} {n : Nat} {l r : List V} {o o' k : Nat} : IsA A n → o' = o + n → Tak l o k r → Tak (A l) o' k r
theorem Tak.eq {l r : List V} {o k : Nat} (h : Tak l o k r) : (l.drop o).take k = r ∧ k ≤ (l.drop o).length := by
  induction h with
  | w h => subst h; exact ⟨by simp, by simp⟩
  | d => exact ⟨rfl, Nat.zero_le _⟩
  | t hA he _ ih =>
    subst he
    obtain ⟨p, hp, e⟩ := hA.eq
    simp only [List.drop_zero] at ih ⊢
    rw [e, e, List.take_append, List.take_of_length_le (by omega), hp, Nat.add_sub_cancel, ih.1, List.length_append, hp]
    exact ⟨rfl, by omega⟩
  | @s A n l r o o' k hA he _ ih =>
    subst he
    obtain ⟨p, hp, e⟩ := hA.eq
    have h1 : (p ++ l).drop (o + n) = l.drop o := by rw [List.drop_append, List.drop_eq_nil_of_le (by omega), List.nil_append, show o + n - p.length = o by omega]
    rw [e, h1]
    exact ih
inductive OfC : Value → V → Prop
  | i {k : IntKind} {x : Int} : OfC (.int k x) (eI k x)
  | b {x : Bool} : OfC (.bool x) (eB x)
  | s {x : ByteArray} : OfC (.string x) (eS x)
  | l : OfC (.slice none 0 0) (.row (some true) 1 [])
  | p : OfC (.pointer none) (.sc (.pointer none))
theorem OfC.eq {v : Value} {a : V} (h : OfC v a) : dO v = a := by cases h <;> rfl
theorem OfC.eq' {v : Value} {a : V} (h : OfC v a) : ofValue v = a := by cases h <;> rfl
theorem OfC.one {v : Value} {a : V} (h : OfC v a) : a.one = true ∧ v.cells = #[v] := by cases h <;> exact ⟨rfl, rfl⟩
inductive OfCs : List Value → List V → Prop
  | n : OfCs [] []
  | c {v : Value} {a : V} {vs : List Value} {as_ : List V} : OfC v a → OfCs vs as_ → OfCs (v :: vs) (a :: as_)
theorem OfCs.eq {vs : List Value} {as_ : List V} (h : OfCs vs as_) : vs.map dO = as_ := by
  induction h with
  | n => rfl
  | c h _ ih => rw [List.map_cons, h.eq, ih]
theorem OfCs.one {vs : List Value} {as_ : List V} (h : OfCs vs as_) : as_.all V.one = true := by
  induction h with
  | n => rfl
  | c h _ ih => rw [List.all_cons, h.one.1, ih]; rfl
inductive Zro : Value → List V → Prop
  | a {vs : List Value} {cs : List V} : OfCs vs cs → Zro (.agg vs.toArray) cs
  | o {v : Value} {a : V} : OfC v a → Zro v [a]
theorem Zro.eq {v : Value} {cs : List V} (h : Zro v cs) : v.cells.toList.map dO = cs ∧ cs.all V.one = true := by
  cases h with
  | a h => exact ⟨h.eq, h.one⟩
  | o h => rw [h.one.2]; exact ⟨by simp [h.eq], by simp [h.one.1]⟩
inductive Cel : V → List V → Prop
  | a {cs : List V} : cs.all V.one = true → Cel (.agg cs) cs
  | o {x : V} : x.one = true → x.cells = [x] → Cel x [x]
  | m {α : Type} {E : α → V} {q : List α} : (∀ x, (E x).one = true) → Cel (.agg (q.map E)) (q.map E)
theorem Cel.eq {x : V} {cs : List V} (h : Cel x cs) : x.cells = cs ∧ x.flatOk = true := by
  cases h with
  | a h => exact ⟨rfl, h⟩
  | o h1 h2 => exact ⟨h2, by simp [V.flatOk, h2, h1]⟩
  | m h => exact ⟨rfl, aOs h⟩
inductive Fil (pl : Array (Nat × Nat)) : List V → List (Nat × V) → List V → Prop
  | n {cs : List V} : Fil pl cs [] cs
  | c {cs ds es fs : List V} {i o k : Nat} {x : V} {ps : List (Nat × V)} : pl[i]? = some (o, k) → Cel x ds → ds.length = k → Nat.ble (o + k) cs.length = true → Spl cs o ds es → Fil pl es ps fs → Fil pl cs ((i, x) :: ps) fs
theorem Fil.eq {pl : Array (Nat × Nat)} {cs fs : List V} {ps : List (Nat × V)} (h : Fil pl cs ps fs) : m9 (fun i => pl[i]?) cs ps = some fs := by
  induction h with
  | n => rfl
  | c h1 h2 h3 h4 h5 _ ih =>
    simp only [m9, h1]
    rw [if_pos ⟨h2.eq.2, by rw [h2.eq.1, h3], Nat.le_of_ble_eq_true h4⟩, h2.eq.1, h5.eq, ih]
class TiC (P : Program) (t : TypeId) (d : outParam TI) : Prop where
  h : aK P t = some d
class FaC (P : Program) (t : TypeId) (f : Nat) (k : outParam Nat) : Prop where
  p : ∀ b off, aI P t (.ptr b off) f = some (.ptr b (off + k))
  e : ∀ es i off, aI P t (.eptr es i off) f = some (.eptr es i (off + k))
class NoA (P : Program) (t : TypeId) : Prop where
  h : True
class PlC (P : Program) (t : TypeId) (pl : outParam (Array (Nat × Nat))) : Prop where
  h : jY P t = some pl
def aKE (op : BinOp) (k : IntKind) (a b : Int) : Option V := match op with
  | .add => some (eI k (k.wrap (a + b)))
  | .sub => some (eI k (k.wrap (a - b)))
  | .mul => some (eI k (k.wrap (a * b)))
  | .and => some (eI k (bits .and k a b))
  | .or => some (eI k (bits .or k a b))
  | .xor => some (eI k (bits .xor k a b))
  | .eql => some (eB (a == b))
  | .neq => some (eB (a != b))
  | .lss => some (eB (decide (a < b)))
  | .leq => some (eB (decide (a ≤ b)))
  | .gtr => some (eB (decide (b < a)))
  | .geq => some (eB (decide (b ≤ a)))
  | _ => none
theorem aMo {P : Program} {op : BinOp} {t : TypeId} {x y : Operand} {k : IntKind} {a b : Int} {v : V} (h : aKE op k a b = some v) : dI P op t x y (eI k a) (eI k b) = some v := by
  cases op <;> simp only [aKE, Option.some.injEq, reduceCtorEq] at h <;> subst h
  · exact aLt ..
  · exact aMu ..
  · exact aMP ..
  · exact aMC ..
  · exact aNG ..
  · exact aMW ..
  · exact wK ..
  · exact aMr ..
  · exact aMV ..
  · exact aLI ..
  · exact aL0 ..
  · exact aLS ..
section
variable {P : Program} {N n t : Nat} {m : Option (List Nat × List Nat)} {ops : Array Oper} {l : List Oper} {fr : List (Nat × V)} {h h' : Hp} {K : List V → Hp → Prop} {op : Op} {ty : TypeId} {pos : String} {aft : Array Edge} {gd : Option (Nat × Bool)} {v a b : V} {x y z : Operand} {Q : Ex → List V → Hp → Prop} {s : List V} {k : IntKind} {i j : Int} {o e : Nat} {cs ds : List V} {ti di : TI} {u w : TypeId} {bo : BinOp} {p q : Nat} {c : Bool}
theorem xm (hx : a9 n fr x = some a) (hg : Gd ops n fr gd) (q : OpsX P N m ops l (aG n ((t, a) :: fr)) h K) : OpsX P N m ops (⟨some t, .move x, ty, pos, aft, gd⟩ :: l) (aG n fr) h K := xS (fC hx) q hg
theorem xa (hx : a9 n fr x = some a) (hg : Gd ops n fr gd) (q : OpsX P N m ops l (aG n ((t, a) :: fr)) h K) : OpsX P N m ops (⟨some t, .assign x, ty, pos, aft, gd⟩ :: l) (aG n fr) h K := xS (bB hx) q hg
theorem xmc {v : Value} (hv : OfC v a) (hg : Gd ops n fr gd) (q : OpsX P N m ops l (aG n ((t, a) :: fr)) h K) : OpsX P N m ops (⟨some t, .move (.const v), ty, pos, aft, gd⟩ :: l) (aG n fr) h K := xm (by rw [← hv.eq']; rfl) hg q
theorem xac {v : Value} (hv : OfC v a) (hg : Gd ops n fr gd) (q : OpsX P N m ops l (aG n ((t, a) :: fr)) h K) : OpsX P N m ops (⟨some t, .assign (.const v), ty, pos, aft, gd⟩ :: l) (aG n fr) h K := xa (by rw [← hv.eq']; rfl) hg q
theorem xb (hx : a9 n fr x = some (eI k i)) (hy : a9 n fr y = some (eI k j)) (hv : aKE bo k i j = some v) (hg : Gd ops n fr gd) (q : OpsX P N m ops l (aG n ((t, v) :: fr)) h K) : OpsX P N m ops (⟨some t, .binOp bo u x y w, ty, pos, aft, gd⟩ :: l) (aG n fr) h K := xS (qC hx hy (aMo hv)) q hg
theorem xno (hx : a9 n fr x = some (eB c)) (hg : Gd ops n fr gd) (q : OpsX P N m ops l (aG n ((t, eB (!c)) :: fr)) h K) : OpsX P N m ops (⟨some t, .unOp .not u x, ty, pos, aft, gd⟩ :: l) (aG n fr) h K := xS (aG2 hx (aNg _ _)) q hg
theorem xci {sz by_ : Nat} {zz : Value} {k' : IntKind} [D : TiC P u di] [T : TiC P w ⟨.int k', sz, by_, zz⟩] (hx : a9 n fr x = some (eI k i)) (hg : Gd ops n fr gd) (q : OpsX P N m ops l (aG n ((t, eI k' (k'.wrap i)) :: fr)) h K) : OpsX P N m ops (⟨some t, .convert u w x, ty, pos, aft, gd⟩ :: l) (aG n fr) h K := xS (qI hx (oR _ ⟨_, D.h⟩ T.h rfl)) q hg
theorem xlR {α : Type} {E : α → V} {nl : Option Bool} {ml : List α} {sz by_ : Nat} {zz : Value} [T : TiC P u ⟨.slice e, sz, by_, zz⟩] (hx : a9 n fr x = some (.row nl o (ml.map E))) (hg : Gd ops n fr gd) (q : OpsX P N m ops l (aG n ((t, eI .i64 (ml.length : Int)) :: fr)) h K) : OpsX P N m ops (⟨some t, .call ⟨.builtin .len, #[x], #[u]⟩, ty, pos, aft, gd⟩ :: l) (aG n fr) h K := xS (aH6 hx (aOP T.h)) q hg
theorem xlS {sz by_ : Nat} {zz : Value} {ag : Bool} [T : TiC P u ⟨.slice e, sz, by_, zz⟩] (hx : a9 n fr x = some (.sl o p q w ag)) (hg : Gd ops n fr gd) (kk : OpsX P N m ops l (aG n ((t, eI .i64 (q : Int)) :: fr)) h K) : OpsX P N m ops (⟨some t, .call ⟨.builtin .len, #[x], #[u]⟩, ty, pos, aft, gd⟩ :: l) (aG n fr) h K := xS (aH6 hx (aPd T.h)) kk hg
theorem xlT {sz by_ : Nat} {zz : Value} {st : ByteArray} [T : TiC P u ⟨.string, sz, by_, zz⟩] (hx : a9 n fr x = some (eS st)) (hg : Gd ops n fr gd) (q : OpsX P N m ops l (aG n ((t, eI .i64 (st.size : Int)) :: fr)) h K) : OpsX P N m ops (⟨some t, .call ⟨.builtin .len, #[x], #[u]⟩, ty, pos, aft, gd⟩ :: l) (aG n fr) h K := xS (aH6 hx (aOH T.h)) q hg
theorem xe {vs : List V} (hx : a9 n fr x = some (.tup vs)) (hv : vs[o]? = some v) (hg : Gd ops n fr gd) (q : OpsX P N m ops l (aG n ((t, v) :: fr)) h K) : OpsX P N m ops (⟨some t, .extract x o, ty, pos, aft, gd⟩ :: l) (aG n fr) h K := xS (aCj hx hv) q hg
theorem xfp {f kk r : Nat} [F : FaC P u f kk] (hx : a9 n fr x = some (.ptr o p)) (hr : p + kk = r) (hg : Gd ops n fr gd) (q : OpsX P N m ops l (aG n ((t, .ptr o r) :: fr)) h K) : OpsX P N m ops (⟨some t, .fieldAddr u x f, ty, pos, aft, gd⟩ :: l) (aG n fr) h K := xS (v9 hx (hr ▸ F.p _ _)) q hg
theorem xfe {f kk r ix : Nat} [F : FaC P u f kk] (hx : a9 n fr x = some (.eptr cs ix p)) (hr : p + kk = r) (hg : Gd ops n fr gd) (q : OpsX P N m ops l (aG n ((t, .eptr cs ix r) :: fr)) h K) : OpsX P N m ops (⟨some t, .fieldAddr u x f, ty, pos, aft, gd⟩ :: l) (aG n fr) h K := xS (v9 hx (hr ▸ F.e _ _ _)) q hg
theorem xnp (hx : a9 n fr x = some (.ptr o p)) (hg : Gd ops n fr gd) (q : OpsX P N m ops l (aG n ((t, .ptr o p) :: fr)) h K) : OpsX P N m ops (⟨some t, .nilCheck x, ty, pos, aft, gd⟩ :: l) (aG n fr) h K := xS (aNu hx) q hg
theorem xne {ix : Nat} (hx : a9 n fr x = some (.eptr cs ix p)) (hg : Gd ops n fr gd) (q : OpsX P N m ops l (aG n ((t, .eptr cs ix p) :: fr)) h K) : OpsX P N m ops (⟨some t, .nilCheck x, ty, pos, aft, gd⟩ :: l) (aG n fr) h K := xS (aNS hx) q hg
theorem xl1 [T : TiC P u ti] (hx : a9 n fr x = some (.ptr o p)) (hb : h[o]? = some (some ⟨e, cs⟩)) (hc : (cs.drop p).head? = some v) (hd : b5 ti.desc = false) (hg : Gd ops n fr gd) (q : OpsX P N m ops l (aG n ((t, v) :: fr)) h K) : OpsX P N m ops (⟨some t, .load u x, ty, pos, aft, gd⟩ :: l) (aG n fr) h K := xS (bA hx (tH hb (vS T.h hd hc))) q hg
theorem xlN {fs : Array Field} {sz by_ : Nat} {zz : Value} [T : TiC P u ⟨.struct fs, sz, by_, zz⟩] (hx : a9 n fr x = some (.ptr o p)) (hb : h[o]? = some (some ⟨e, cs⟩)) (hc : Tak cs p sz ds) (hg : Gd ops n fr gd) (q : OpsX P N m ops l (aG n ((t, .agg ds) :: fr)) h K) : OpsX P N m ops (⟨some t, .load u x, ty, pos, aft, gd⟩ :: l) (aG n fr) h K := xS (bA hx (tH hb (jI T.h rfl hc.eq.2 hc.eq.1))) q hg
theorem xlX {α : Type} {E : α → V} {ml : List α} {r : α} [T : TiC P u ti] (hx : a9 n fr x = some (.ptr o j.toNat)) (hb : h[o]? = some (some ⟨e, ml.map E⟩)) (hd : b5 ti.desc = false) (hi : cU ml j = some r) (hg : Gd ops n fr gd) (q : OpsX P N m ops l (aG n ((t, E r) :: fr)) h K) : OpsX P N m ops (⟨some t, .load u x, ty, pos, aft, gd⟩ :: l) (aG n fr) h K := xS (bA hx (ldX T.h hd hb hi)) q hg
theorem aPl {α : Type} {E : α → V} {ml : List α} {r : α} [T : TiC P u ti] (hx : a9 n fr x = some (.eptr (ml.map E) j.toNat p)) (hd : b5 ti.desc = false) (hi : cU ml j = some r) (hc : ((E r).cells.drop p).head? = some v) (hg : Gd ops n fr gd) (q : OpsX P N m ops l (aG n ((t, v) :: fr)) h K) : OpsX P N m ops (⟨some t, .load u x, ty, pos, aft, gd⟩ :: l) (aG n fr) h K := xS (bA hx (ldR hi (vS T.h hd hc))) q hg
theorem aO4 {α : Type} {E : α → V} {ml : List α} {r : α} {fs : Array Field} {sz by_ : Nat} {zz : Value} [T : TiC P u ⟨.struct fs, sz, by_, zz⟩] (hx : a9 n fr x = some (.eptr (ml.map E) j.toNat p)) (hi : cU ml j = some r) (hE : E r = .agg cs) (hc : Tak cs p sz ds) (hg : Gd ops n fr gd) (q : OpsX P N m ops l (aG n ((t, .agg ds) :: fr)) h K) : OpsX P N m ops (⟨some t, .load u x, ty, pos, aft, gd⟩ :: l) (aG n fr) h K := xS (bA hx (ldR hi (by rw [hE]; exact jI T.h rfl hc.eq.2 hc.eq.1))) q hg
inductive ArM : List V → List V → Prop
  | a4 {k : IntKind} {q : List Int} : q.length = 4 → ArM (dG (eI k) q []) (q.map (eI k))
  | a8 {k : IntKind} {q : List Int} : q.length = 8 → ArM (ar8 (eI k) q []) (q.map (eI k))
  | a20 {k : IntKind} {q : List Int} : q.length = 20 → ArM (yA (eI k) q []) (q.map (eI k))
  | a32 {k : IntKind} {q : List Int} : q.length = 32 → ArM (aO (eI k) q []) (q.map (eI k))
  | a64 {k : IntKind} {q : List Int} : q.length = 64 → ArM (xY (eI k) q []) (q.map (eI k))
theorem ArM.eq {a b : List V} (h : ArM a b) : a = b := by
  cases h with
  | a4 h => exact uS h
  | a8 h => exact aLB h
  | a20 h => exact aJ7 h
  | a32 h => exact sD h
  | a64 h => exact aKl h
theorem xlA {es : List V} {N' sz by_ : Nat} {zz : Value} [T : TiC P u ⟨.array N' w, sz, by_, zz⟩] (hx : a9 n fr x = some (.ptr o p)) (hb : h[o]? = some (some ⟨e, cs⟩)) (hc : Tak cs p sz ds) (ha : ArM ds es) (hg : Gd ops n fr gd) (q : OpsX P N m ops l (aG n ((t, .agg es) :: fr)) h K) : OpsX P N m ops (⟨some t, .load u x, ty, pos, aft, gd⟩ :: l) (aG n fr) h K := xS (bA hx (tH hb (by rw [← ha.eq]; exact jI T.h rfl hc.eq.2 hc.eq.1))) q hg
theorem aPm {α : Type} {E : α → V} {ml : List α} {r : α} {es : List V} {N' sz by_ : Nat} {zz : Value} [T : TiC P u ⟨.array N' w, sz, by_, zz⟩] (hx : a9 n fr x = some (.eptr (ml.map E) j.toNat p)) (hi : cU ml j = some r) (hE : E r = .agg cs) (hc : Tak cs p sz ds) (ha : ArM ds es) (hg : Gd ops n fr gd) (q : OpsX P N m ops l (aG n ((t, .agg es) :: fr)) h K) : OpsX P N m ops (⟨some t, .load u x, ty, pos, aft, gd⟩ :: l) (aG n fr) h K := xS (bA hx (ldR hi (by rw [hE, ← ha.eq]; exact jI T.h rfl hc.eq.2 hc.eq.1))) q hg
theorem xlB {α : Type} {E : α → V} {ml : List α} {N' sz by_ : Nat} {zz : Value} [T : TiC P u ⟨.array N' w, sz, by_, zz⟩] (hx : a9 n fr x = some (.ptr o 0)) (hb : h[o]? = some (some ⟨e, ml.map E⟩)) (hz : sz = N') (hl : ml.length = N') (hg : Gd ops n fr gd) (q : OpsX P N m ops l (aG n ((t, .agg (ml.map E)) :: fr)) h K) : OpsX P N m ops (⟨some t, .load u x, ty, pos, aft, gd⟩ :: l) (aG n fr) h K := xS (bA hx (uN T.h hz hb hl)) q hg
theorem xiR {α : Type} {E : α → V} {nl : Option Bool} {ml : List α} {r : α} {sz by_ : Nat} {zz : Value} [T : TiC P u ⟨.slice e, sz, by_, zz⟩] [D : TiC P e di] (hx : a9 n fr x = some (.row nl o (ml.map E))) (hy : a9 n fr y = some (eI k j)) (hs : di.size = o) (hi : cU ml j = some r) (hg : Gd ops n fr gd) (q : OpsX P N m ops l (aG n ((t, .eptr (ml.map E) j.toNat 0) :: fr)) h K) : OpsX P N m ops (⟨some t, .indexAddr u x y, ty, pos, aft, gd⟩ :: l) (aG n fr) h K := xS (aAn hx hy (by subst hs; exact iaR T.h D.h hi)) q hg
theorem xiS {α : Type} {E : α → V} {ml : List α} {r : α} {q0 sz by_ : Nat} {zz : Value} {ag : Bool} [T : TiC P u ⟨.slice e, sz, by_, zz⟩] [D : TiC P e di] (hx : a9 n fr x = some (.sl o 0 q0 1 ag)) (hy : a9 n fr y = some (eI k j)) {e' : Nat} (hb : h[o]? = some (some ⟨e', ml.map E⟩)) (hi : cU ml j = some r) (hn : ml.length = q0) (hs : di.size = 1) (hg : Gd ops n fr gd) (q : OpsX P N m ops l (aG n ((t, .ptr o j.toNat) :: fr)) h K) : OpsX P N m ops (⟨some t, .indexAddr u x y, ty, pos, aft, gd⟩ :: l) (aG n fr) h K := xS (aAn hx hy (iaS hn T.h D.h hs hi)) q hg
theorem xiB {α : Type} {E : α → V} {ml : List α} {r : α} {N' sz by_ : Nat} {zz : Value} [T : TiC P u ⟨.array N' e, sz, by_, zz⟩] [D : TiC P e di] (hx : a9 n fr x = some (.ptr o 0)) (hy : a9 n fr y = some (eI k j)) {e' : Nat} (hb : h[o]? = some (some ⟨e', ml.map E⟩)) (hi : aW N' ml j = some r) (hs : di.size = 1) (hg : Gd ops n fr gd) (q : OpsX P N m ops l (aG n ((t, .ptr o j.toNat) :: fr)) h K) : OpsX P N m ops (⟨some t, .indexAddr u x y, ty, pos, aft, gd⟩ :: l) (aG n fr) h K := xS (aAn hx hy (iaB T.h D.h hs hi)) q hg
theorem xVv {jj ww : Nat} {want : Bool} (hj : (ops[jj]?).bind (·.dst) = some ww) (hl : a9 n fr (.tmp ww) = some (.sc undef)) (q : OpsX P N m ops l (aG n ((t, .sc undef) :: fr)) h K) : OpsX P N m ops (⟨some t, op, ty, pos, aft, some (jj, want)⟩ :: l) (aG n fr) h K := xS0 (aT hj hl) q
theorem xXx {jj ww : Nat} {want : Bool} (hj : (ops[jj]?).bind (·.dst) = some ww) (hl : a9 n fr (.tmp ww) = some (.sc (.bool c))) (hc : c = !want) (q : OpsX P N m ops l (aG n ((t, .sc undef) :: fr)) h K) : OpsX P N m ops (⟨some t, op, ty, pos, aft, some (jj, want)⟩ :: l) (aG n fr) h K := xS0 (bK hj hl hc) q
def aJ6 : List Oper → Bool
  | [] => true
  | o :: l => (match o.guard, o.op with
    | none, .pick _ _ _ => false
    | none, _ => true
    | some _, _ => false) && aJ6 l
theorem xqn {cc : Code} {id : Nat} (hn : aJ6 l = true) (hr : OpsX P N none l.toArray l s h (Ex.then (AB P N cc Q) Q .normal)) : AB P N (.seq (.region id l.toArray false) cc) Q s h := xq hr
theorem xrn {id : Nat} (hn : aJ6 l = true) (hr : OpsX P N none l.toArray l s h (Q .normal)) : AB P N (.region id l.toArray false) Q s h := xr hr
theorem xsA {α : Type} {E : α → V} {ml mm : List α} {N' sz by_ i' : Nat} {zz : Value} [T : TiC P u ⟨.array N' e, sz, by_, zz⟩] (hx : a9 n fr x = some (.ptr o 0)) (hb : h[o]? = some (some ⟨i', ml.map E⟩)) (hy : a9 n fr y = some (.agg (mm.map E))) (hz : sz = N') (hE : ∀ x, (E x).one = true) (h1 : ml.length = N') (h2 : mm.length = N') (hh : LSet h o (some ⟨i', mm.map E⟩) h') (hg : Gd ops n fr gd) (q : OpsX P N m ops l (aG n fr) h' K) : OpsX P N m ops (⟨none, .store u x y, ty, pos, aft, gd⟩ :: l) (aG n fr) h K := xN (v := .sc undef) (h' := h') (bG hx hy (s6 T.h hz hb hE h1 h2 hh.eq)) q hg
theorem xs [T : TiC P u ti] (hx : a9 n fr x = some (.ptr o p)) (hy : a9 n fr y = some v) (hb : h[o]? = some (some ⟨e, cs⟩)) {es fs : List V} (hv : Cel v es) (h1 : es.length = ti.size) (h2 : Nat.ble (p + ti.size) cs.length = true) (hs : Spl cs p es fs) (hh : LSet h o (some ⟨e, fs⟩) h') (hg : Gd ops n fr gd) (q : OpsX P N m ops l (aG n fr) h' K) : OpsX P N m ops (⟨none, .store u x y, ty, pos, aft, gd⟩ :: l) (aG n fr) h K := by
  obtain ⟨hv1, hv2⟩ := hv.eq
  refine xN (v := .sc undef) (h' := h') (bG hx hy (qH T.h hb hv2 (by rw [hv1, h1]) (Nat.le_of_ble_eq_true h2) ?_)) q hg
  rw [hv1, hs.eq, hh.eq]
theorem xsX {α : Type} {E : α → V} {ml : List α} {r r' : α} [T : TiC P u ti] (hx : a9 n fr x = some (.ptr o j.toNat)) (hb : h[o]? = some (some ⟨e, ml.map E⟩)) (hy : a9 n fr y = some (E r')) (hz : ti.size = 1) (hi : cU ml j = some r) (ho : (E r').one = true) (hc : (E r').cells = [E r']) (hh : LSet h o (some ⟨e, (ml.set j.toNat r').map E⟩) h') (hg : Gd ops n fr gd) (q : OpsX P N m ops l (aG n fr) h' K) : OpsX P N m ops (⟨none, .store u x y, ty, pos, aft, gd⟩ :: l) (aG n fr) h K := xN (v := .sc undef) (h' := h') (bG hx hy (aPU T.h hz hb hi ho hc hh.eq)) q hg
theorem xal {r : Nat} [A : NoA P e] [T : TiC P e ti] (hz : Zro ti.zero cs) (hh : Snoc h (some ⟨e, cs⟩) h') (hl : h.length = r) (hg : Gd ops n fr gd) (q : OpsX P N m ops l (aG n ((t, .ptr r 0) :: fr)) h' K) : OpsX P N m ops (⟨some t, .alloc e, ty, pos, aft, gd⟩ :: l) (aG n fr) h K :=
  xS (eK T.h (by rw [hz.eq.1]; exact hz.eq.2) hl (by rw [hz.eq.1]; exact hh.eq)) q hg
theorem aOU {r N' sz by_ sz' by' : Nat} {k' : IntKind} {e' : TypeId} {vs : List Value} {z' : Value} [T : TiC P e ⟨.array N' e', sz, by_, .agg vs.toArray⟩] [D : TiC P e' ⟨.int k', sz', by', z'⟩] (hz : vs.map dO = (List.replicate N' 0).map (eI k')) (hh : Snoc h (some ⟨e, (List.replicate N' 0).map (eI k')⟩) h') (hl : h.length = r) (hg : Gd ops n fr gd) (q : OpsX P N m ops l (aG n ((t, .ptr r 0) :: fr)) h' K) : OpsX P N m ops (⟨some t, .alloc e, ty, pos, aft, gd⟩ :: l) (aG n fr) h K :=
  xS (eK T.h (by
    have e1 : (TI.zero ⟨.array N' e', sz, by_, .agg vs.toArray⟩).cells.toList.map dO = (List.replicate N' 0).map (eI k') := hz
    rw [e1]; exact all_map (fun _ => rfl) _) hl (by
    have e1 : (TI.zero ⟨.array N' e', sz, by_, .agg vs.toArray⟩).cells.toList.map dO = (List.replicate N' 0).map (eI k') := hz
    rw [e1]; exact hh.eq)) q hg
theorem xbx {r : Nat} (hx : a9 n fr x = some a) (hv : Cel a cs) (hh : Snoc h (some ⟨e, cs⟩) h') (hl : h.length = r) (hg : Gd ops n fr gd) (q : OpsX P N m ops l (aG n ((t, .ptr r 0) :: fr)) h' K) : OpsX P N m ops (⟨some t, .box e x, ty, pos, aft, gd⟩ :: l) (aG n fr) h K :=
  xS (aN8 hx hv.eq.2 hl (by rw [hv.eq.1]; exact hh.eq)) q hg
theorem xbd {fs : Array Field} {sz by_ : Nat} {zz : Value} {pl : Array (Nat × Nat)} {ps : List (Nat × Operand)} {xs : List (Nat × V)} [T : TiC P u ⟨.struct fs, sz, by_, zz⟩] [L : PlC P u pl] [A : NoA P u] (hp : aAE n fr ps = some xs) (hz : Zro zz cs) (hf : Fil pl cs xs ds) (hg : Gd ops n fr gd) (q : OpsX P N m ops l (aG n ((t, .agg ds) :: fr)) h K) : OpsX P N m ops (⟨some t, .build u ps.toArray, ty, pos, aft, gd⟩ :: l) (aG n fr) h K :=
  xS (cB hp (aAh T.h L.h (by rw [hz.eq.1]; exact hf.eq))) q hg
theorem xfd {fs : Array Field} {sz by_ f : Nat} {zz : Value} {fl : Field} [T : TiC P u ⟨.struct fs, sz, by_, zz⟩] [D : TiC P fl.type di] (hx : a9 n fr x = some (.agg cs)) (hf : fs[f]? = some fl) (hd : b5 di.desc = false) (hc : (cs.drop fl.offset).head? = some v) (hg : Gd ops n fr gd) (q : OpsX P N m ops l (aG n ((t, v) :: fr)) h K) : OpsX P N m ops (⟨some t, .field u x f, ty, pos, aft, gd⟩ :: l) (aG n fr) h K := xS (aNW hx (aPr T.h hf (vS D.h hd hc))) q hg
theorem xpT (hz : a9 n fr z = some (eB c)) (hc : c = true) (hx : a9 n fr x = some a) (hg : Gd ops n fr gd) (q : OpsX P N m ops l (aG n ((t, a) :: fr)) h K) : OpsX P N m ops (⟨some t, .pick z x y, ty, pos, aft, gd⟩ :: l) (aG n fr) h K := xS (b7 hz hc hx) q hg
theorem xpF (hz : a9 n fr z = some (eB c)) (hc : c = false) (hy : a9 n fr y = some a) (hg : Gd ops n fr gd) (q : OpsX P N m ops l (aG n ((t, a) :: fr)) h K) : OpsX P N m ops (⟨some t, .pick z x y, ty, pos, aft, gd⟩ :: l) (aG n fr) h K := xS (k8 hz hc hy) q hg
inductive NumK (k : IntKind) : Nat → List (Nat × V) → List Int → Prop
  | n {i : Nat} : NumK k i [] []
  | c {i : Nat} {x : Int} {ps : List (Nat × V)} {xs : List Int} : NumK k (i + 1) ps xs → NumK k i ((i, eI k x) :: ps) (x :: xs)
theorem NumK.eq {k : IntKind} {i : Nat} {ps : List (Nat × V)} {xs : List Int} (h : NumK k i ps xs) : qU i (xs.map (eI k)) = ps := by
  induction h with
  | n => rfl
  | c _ ih => simp only [List.map_cons, qU]; rw [ih]
inductive NumB : Nat → List (Nat × V) → List Bool → Prop
  | n {i : Nat} : NumB i [] []
  | c {i : Nat} {x : Bool} {ps : List (Nat × V)} {xs : List Bool} : NumB (i + 1) ps xs → NumB i ((i, eB x) :: ps) (x :: xs)
theorem NumB.eq {i : Nat} {ps : List (Nat × V)} {xs : List Bool} (h : NumB i ps xs) : qU i (xs.map eB) = ps := by
  induction h with
  | n => rfl
  | c _ ih => simp only [List.map_cons, qU]; rw [ih]
inductive NumR {α : Type} (kk : Nat) (E : α → V) : Nat → List (Nat × V) → List (List α) → Prop
  | n {i : Nat} : NumR kk E i [] []
  | c {i : Nat} {x : List α} {ps : List (Nat × V)} {xs : List (List α)} : NumR kk E (i + 1) ps xs → NumR kk E i ((i, .row none kk (x.map E)) :: ps) (x :: xs)
  | z {i : Nat} {ps : List (Nat × V)} {xs : List (List α)} : NumR kk E (i + 1) ps xs → NumR kk E i ((i, .row none kk []) :: ps) ([] :: xs)
theorem NumR.eq {α : Type} {kk : Nat} {E : α → V} {i : Nat} {ps : List (Nat × V)} {xs : List (List α)} (h : NumR kk E i ps xs) : qU i (xs.map (eL kk E)) = ps := by
  induction h with
  | n => rfl
  | z _ ih => simp only [List.map_cons, qU]; rw [ih]; rfl
  | c _ ih => simp only [List.map_cons, qU]; rw [ih]
theorem aOV {α : Type} {E : α → V} (hE : ∀ x, (E x).one = true) (hc : ∀ x, (E x).cells = [E x]) (xs : List α) : (xs.map E).all (fun x => x.one && (x.cells.length == 1)) = true := by
  simp [List.all_eq_true, hE, hc]
theorem aJ4 {α : Type} {E : α → V} {js : List α} {len sz by_ r : Nat} {zz : Value} {ps : List (Nat × Operand)} {xs : List (Nat × V)} [T : TiC P u ⟨.slice e, sz, by_, zz⟩] [D : TiC P e di] (hp : sM n fr ps = some xs) (hn : qU 0 (js.map E) = xs) (hE : ∀ x, (E x).one = true) (hc : ∀ x, (E x).cells = [E x]) (hs : di.size = 1) {ag : Bool} (ha : b5 di.desc = ag) (h1 : Nat.ble (len * 1) (2 ^ 24) = true) (h2 : Nat.ble 1 len = true) (hlen : js.length = len) (hh : Snoc h (some ⟨e, js.map E⟩) h') (hl : h.length = r) (hg : Gd ops n fr gd) (q : OpsX P N m ops l (aG n ((t, .sl r 0 len 1 ag) :: fr)) h' K) : OpsX P N m ops (⟨some t, .buildSlice u len ps.toArray, ty, pos, aft, gd⟩ :: l) (aG n fr) h K :=
  xS (dH hp (nZ T.h D.h (Nat.le_of_ble_eq_true h1) (Nat.le_of_ble_eq_true h2) hs ha hn (aOV hE hc _) (by rw [List.length_map]; exact hlen) hl hh.eq)) q hg
theorem aOM {js : List Int} {len sz by_ r sz' by' : Nat} {zz z' : Value} {ps : List (Nat × Operand)} {xs : List (Nat × V)} [T : TiC P u ⟨.slice e, sz, by_, zz⟩] [D : TiC P e ⟨.int k, sz', by', z'⟩] (hp : sM n fr ps = some xs) (hn : NumK k 0 xs js) (hs : sz' = 1) (h1 : Nat.ble (len * 1) (2 ^ 24) = true) (h2 : Nat.ble 1 len = true) (hlen : js.length = len) (hh : Snoc h (some ⟨e, js.map (eI k)⟩) h') (hl : h.length = r) (hg : Gd ops n fr gd) (q : OpsX P N m ops l (aG n ((t, .sl r 0 len 1 false) :: fr)) h' K) : OpsX P N m ops (⟨some t, .buildSlice u len ps.toArray, ty, pos, aft, gd⟩ :: l) (aG n fr) h K := aJ4 (ag := false) hp hn.eq (fun _ => rfl) (fun _ => rfl) hs rfl h1 h2 hlen hh hl hg q
theorem aPS {js : List Bool} {len sz by_ r sz' by' : Nat} {zz z' : Value} {ps : List (Nat × Operand)} {xs : List (Nat × V)} [T : TiC P u ⟨.slice e, sz, by_, zz⟩] [D : TiC P e ⟨.bool, sz', by', z'⟩] (hp : sM n fr ps = some xs) (hn : NumB 0 xs js) (hs : sz' = 1) (h1 : Nat.ble (len * 1) (2 ^ 24) = true) (h2 : Nat.ble 1 len = true) (hlen : js.length = len) (hh : Snoc h (some ⟨e, js.map eB⟩) h') (hl : h.length = r) (hg : Gd ops n fr gd) (q : OpsX P N m ops l (aG n ((t, .sl r 0 len 1 false) :: fr)) h' K) : OpsX P N m ops (⟨some t, .buildSlice u len ps.toArray, ty, pos, aft, gd⟩ :: l) (aG n fr) h K := aJ4 (ag := false) hp hn.eq (fun _ => rfl) (fun _ => rfl) hs rfl h1 h2 hlen hh hl hg q
theorem aPF {α : Type} {E : α → V} {kk : Nat} {js : List (List α)} {len sz by_ r sz' by' : Nat} {zz z' : Value} {e' : TypeId} {ps : List (Nat × Operand)} {xs : List (Nat × V)} [T : TiC P u ⟨.slice e, sz, by_, zz⟩] [D : TiC P e ⟨.slice e', sz', by', z'⟩] (hp : sM n fr ps = some xs) (hn : NumR kk E 0 xs js) (hs : sz' = 1) (h1 : Nat.ble (len * 1) (2 ^ 24) = true) (h2 : Nat.ble 1 len = true) (hlen : js.length = len) (hh : Snoc h (some ⟨e, js.map (eL kk E)⟩) h') (hl : h.length = r) (hg : Gd ops n fr gd) (q : OpsX P N m ops l (aG n ((t, .sl r 0 len 1 false) :: fr)) h' K) : OpsX P N m ops (⟨some t, .buildSlice u len ps.toArray, ty, pos, aft, gd⟩ :: l) (aG n fr) h K := aJ4 (ag := false) hp hn.eq (fun _ => rfl) (fun _ => rfl) hs rfl h1 h2 hlen hh hl hg q
theorem aPA {k' : IntKind} {r : Int} (hx : a9 n fr x = some (eI k i)) (hy : a9 n fr y = some (eI k' j)) (hv : shl k i j = some r) (hg : Gd ops n fr gd) (q : OpsX P N m ops l (aG n ((t, eI k r) :: fr)) h K) : OpsX P N m ops (⟨some t, .binOp .shl u x y w, ty, pos, aft, gd⟩ :: l) (aG n fr) h K := xS (qC hx hy (aKn _ _ _ _ hv)) q hg
theorem aPs {k' : IntKind} {r : Int} (hx : a9 n fr x = some (eI k i)) (hy : a9 n fr y = some (eI k' j)) (hv : shr k i j = some r) (hg : Gd ops n fr gd) (q : OpsX P N m ops l (aG n ((t, eI k r) :: fr)) h K) : OpsX P N m ops (⟨some t, .binOp .shr u x y w, ty, pos, aft, gd⟩ :: l) (aG n fr) h K := xS (qC hx hy (aJQ _ _ _ _ hv)) q hg
theorem aOO {r : Int} (hx : a9 n fr x = some (eI k i)) (hy : a9 n fr y = some (eI k j)) (hv : quo k i j = some r) (hg : Gd ops n fr gd) (q : OpsX P N m ops l (aG n ((t, eI k r) :: fr)) h K) : OpsX P N m ops (⟨some t, .binOp .quo u x y w, ty, pos, aft, gd⟩ :: l) (aG n fr) h K := xS (qC hx hy (aKR _ _ _ _ hv)) q hg
theorem aO0 {r : Int} (hx : a9 n fr x = some (eI k i)) (hy : a9 n fr y = some (eI k j)) (hv : rem i j = some r) (hg : Gd ops n fr gd) (q : OpsX P N m ops l (aG n ((t, eI k r) :: fr)) h K) : OpsX P N m ops (⟨some t, .binOp .rem u x y w, ty, pos, aft, gd⟩ :: l) (aG n fr) h K := xS (qC hx hy (aKL _ _ _ _ hv)) q hg
class DepC (P : Program) : Prop where
  h : 2 ≤ P.depth
theorem xeA {k' : IntKind} {N' sz by_ sz' by' : Nat} {zz z' : Value} {ml mm : List Int} [A : DepC P] [T : TiC P u ⟨.array N' e, sz, by_, zz⟩] [D : TiC P e ⟨.int k', sz', by', z'⟩] (hx : a9 n fr x = some (.agg (ml.map (eI k)))) (hy : a9 n fr y = some (.agg (mm.map (eI k)))) (hz : sz' = 1) (h1 : ml.length = N') (h2 : mm.length = N') (hg : Gd ops n fr gd) (q : OpsX P N m ops l (aG n ((t, eB (ml == mm)) :: fr)) h K) : OpsX P N m ops (⟨some t, .binOp .eql u x y w, ty, pos, aft, gd⟩ :: l) (aG n fr) h K := xS (qC hx hy (aKC _ _ T.h D.h hz A.h h1 h2)) q hg
theorem xnA {k' : IntKind} {N' sz by_ sz' by' : Nat} {zz z' : Value} {ml mm : List Int} [A : DepC P] [T : TiC P u ⟨.array N' e, sz, by_, zz⟩] [D : TiC P e ⟨.int k', sz', by', z'⟩] (hx : a9 n fr x = some (.agg (ml.map (eI k)))) (hy : a9 n fr y = some (.agg (mm.map (eI k)))) (hz : sz' = 1) (h1 : ml.length = N') (h2 : mm.length = N') (hg : Gd ops n fr gd) (q : OpsX P N m ops l (aG n ((t, eB (!(ml == mm))) :: fr)) h K) : OpsX P N m ops (⟨some t, .binOp .neq u x y w, ty, pos, aft, gd⟩ :: l) (aG n fr) h K := xS (qC hx hy (aKN _ _ T.h D.h hz A.h h1 h2)) q hg
theorem xsR {α : Type} {E : α → V} {ml r : List α} {nl : Option Bool} {sz by_ : Nat} {zz : Value} {lo hi : Option Operand} {vl vh : Option V} {c1 c2 : Int} [T : TiC P u ⟨.slice e, sz, by_, zz⟩] [D : TiC P e di] (hx : a9 n fr x = some (.row nl o (ml.map E))) (h1 : aBz n fr lo = some vl) (h2 : aBz n fr hi = some vh) (ha : lT vl = some c1) (hb : rV vh ml.length = some c2) (hs : sub ml c1 c2 = some r) (ho : di.size = o) {nl' : Option Bool} (hq : nlS nl = nl') (hg : Gd ops n fr gd) (q : OpsX P N m ops l (aG n ((t, .row nl' o (r.map E)) :: fr)) h K) : OpsX P N m ops (⟨some t, .slice u x lo hi none, ty, pos, aft, gd⟩ :: l) (aG n fr) h K := by
  subst ho hq; exact xS (dU hx h1 h2 (slR T.h D.h ha hb hs)) q hg
theorem xsM {α : Type} {E : α → V} {ml r : List α} {nl : Option Bool} {sz by_ : Nat} {zz : Value} {lo : Option Operand} {hi mx : Operand} {vl : Option V} {c1 c2 : Int} {k1 k2 : IntKind} [T : TiC P u ⟨.slice e, sz, by_, zz⟩] [D : TiC P e di] (hx : a9 n fr x = some (.row nl o (ml.map E))) (h1 : aBz n fr lo = some vl) (ha : lT vl = some c1) (h2 : a9 n fr hi = some (eI k1 c2)) (h3 : a9 n fr mx = some (eI k2 c2)) (hs : sub ml c1 c2 = some r) (ho : di.size = o) (hg : Gd ops n fr gd) (q : OpsX P N m ops l (aG n ((t, .row (some false) o (r.map E)) :: fr)) h K) : OpsX P N m ops (⟨some t, .slice u x lo (some hi) (some mx), ty, pos, aft, gd⟩ :: l) (aG n fr) h K := by
  subst ho; exact xS (aJ3 hx h1 h2 h3 (slM T.h D.h ha hs)) q hg
theorem xsE {α : Type} {E : α → V} {ml : List α} {N' sz by_ : Nat} {zz : Value} [T : TiC P u ⟨.array N' e, sz, by_, zz⟩] [D : TiC P e di] (hx : a9 n fr x = some (.eptr [.agg (ml.map E)] 0 0)) (hs : di.size = 1) (ha : b5 di.desc = false) (h1 : ml.length = N') (h2 : Nat.ble 1 N' = true) (hg : Gd ops n fr gd) (q : OpsX P N m ops l (aG n ((t, .row none 1 (ml.map E)) :: fr)) h K) : OpsX P N m ops (⟨some t, .slice u x none none none, ty, pos, aft, gd⟩ :: l) (aG n fr) h K := xS (dU hx rfl rfl (slE T.h D.h hs ha h1 (Nat.le_of_ble_eq_true h2))) q hg
theorem xsL {α : Type} {E : α → V} {ml : List α} {N' sz by_ i' : Nat} {zz : Value} {ag : Bool} [T : TiC P u ⟨.array N' e, sz, by_, zz⟩] [D : TiC P e di] (hx : a9 n fr x = some (.ptr o 0)) (hb : h[o]? = some (some ⟨i', ml.map E⟩)) (hs : di.size = 1) (ha : b5 di.desc = ag) (h1 : ml.length = N') (h2 : Nat.ble 1 N' = true) (h3 : Nat.ble N' lA = true) (hg : Gd ops n fr gd) (q : OpsX P N m ops l (aG n ((t, .sl o 0 N' 1 ag) :: fr)) h K) : OpsX P N m ops (⟨some t, .slice u x none none none, ty, pos, aft, gd⟩ :: l) (aG n fr) h K := xS (dU hx rfl rfl (slA T.h D.h hs ha hb h1 ⟨Nat.le_of_ble_eq_true h2, Nat.le_of_ble_eq_true h3⟩)) q hg
theorem xiK {α : Type} {C : α → List V} {ml : List α} {r : α} {q0 sz by_ e' : Nat} {zz : Value} [T : TiC P u ⟨.slice e, sz, by_, zz⟩] [D : TiC P e di] (hx : a9 n fr x = some (.sl o 0 q0 p true)) (hy : a9 n fr y = some (eI k j)) (hb : h[o]? = some (some ⟨e', ml.flatMap C⟩)) (hi : cU ml j = some r) (hn : ml.length = q0) (hs : di.size = p) (hg : Gd ops n fr gd) (q : OpsX P N m ops l (aG n ((t, .ptr o (0 + j.toNat * p)) :: fr)) h K) : OpsX P N m ops (⟨some t, .indexAddr u x y, ty, pos, aft, gd⟩ :: l) (aG n fr) h K := xS (aAn hx hy (aPq hn T.h D.h hs hi)) q hg
inductive Sr1 {α : Type} (E : α → V) (h : Hp) : V → List α → Prop
  | r {nl : Option Bool} {ml : List α} : (∀ x, (E x).cells = [E x]) → Sr1 E h (.row nl 1 (ml.map E)) ml
  | s {b q e : Nat} {ag : Bool} {ml : List α} : h[b]? = some (some ⟨e, ml.map E⟩) → ml.length = q → Sr1 E h (.sl b 0 q 1 ag) ml
  | n {nl : Option Bool} {k : Nat} : Sr1 E h (.row nl k []) []
theorem Sr1.eq {α : Type} {E : α → V} {h : Hp} {v : V} {ml : List α} (hs : Sr1 E h v ml) : e7 h 1 v = some (ml.map E, ml.length) := by
  cases hs with
  | r hE => exact aGP hE
  | s hb hq => exact iU hq hb
  | n => exact aOI
inductive SrK {α : Type} (C : α → List V) (K : Nat) (h : Hp) : V → List α → Prop
  | r {nl : Option Bool} {ml : List α} : SrK C K h (.row nl K (ml.map fun x => V.agg (C x))) ml
  | s {b q e : Nat} {ml : List α} : (∀ x, (C x).length = K) → h[b]? = some (some ⟨e, ml.flatMap C⟩) → ml.length = q → SrK C K h (.sl b 0 q K true) ml
  | n {nl : Option Bool} {k : Nat} : SrK C K h (.row nl k []) []
theorem SrK.eq {α : Type} {C : α → List V} {K : Nat} {h : Hp} {v : V} {ml : List α} (hs : SrK C K h v ml) : e7 h K v = some (ml.flatMap C, ml.length) := by
  cases hs with
  | r => exact aOe
  | s hC hb hq => exact aOr hC hq hb
  | n => exact aOb
theorem xap {α : Type} {E : α → V} {ml mm r : List α} {q0 sz by_ r0 : Nat} {zz : Value} {ag : Bool} {h2 : Hp} [T : TiC P u ⟨.slice e, sz, by_, zz⟩] [D : TiC P e di] (hx : a9 n fr x = some (.sl o 0 q0 1 ag)) (hy : a9 n fr y = some v) (hb : h[o]? = some (some ⟨e, ml.map E⟩)) (hs : Sr1 E h v mm) (hn : ml.length = q0) (h1 : di.zero.cells.size = 1) (h3 : di.size = 1) (h4 : Nat.ble 1 di.bytes = true) {bb : Nat} (hbb : di.bytes = bb) (ha : app bb ml mm = some r) (hh : LSet h o none h2) (hh' : Snoc h2 (some ⟨e, r.map E⟩) h') (hl : h.length = r0) (hg : Gd ops n fr gd) (q : OpsX P N m ops l (aG n ((t, .sl r0 0 r.length 1 ag) :: fr)) h' K) : OpsX P N m ops (⟨some t, .call ⟨.builtin .append, #[x, y], #[u, u]⟩, ty, pos, aft, gd⟩ :: l) (aG n fr) h K := by
  subst hbb; exact xS (bV hx hy (pY hn T.h D.h ⟨h1, h3, Nat.le_of_ble_eq_true h4⟩ hb hs.eq ha hl (by rw [hh.eq, hh'.eq]))) q hg
theorem xan {α : Type} {E : α → V} {mm r : List α} {sz by_ r0 kk : Nat} {zz : Value} {ag : Bool} {h2 : Hp} [T : TiC P u ⟨.slice e, sz, by_, zz⟩] [D : TiC P e di] (hx : a9 n fr x = some (.row (some true) kk [])) (hy : a9 n fr y = some v) (hs : Sr1 E h v mm) (h1 : di.zero.cells.size = 1) (h3 : di.size = 1) (h4 : Nat.ble 1 di.bytes = true) (hag : b5 di.desc = ag) {bb : Nat} (hbb : di.bytes = bb) (ha : app bb [] mm = some r) (hh : Snoc h none h2) (hh' : Snoc h2 (some ⟨e, r.map E⟩) h') (hl : h2.length = r0) (hg : Gd ops n fr gd) (q : OpsX P N m ops l (aG n ((t, .sl r0 0 r.length 1 ag) :: fr)) h' K) : OpsX P N m ops (⟨some t, .call ⟨.builtin .append, #[x, y], #[u, u]⟩, ty, pos, aft, gd⟩ :: l) (aG n fr) h K := by
  subst hbb; exact xS (bV hx hy (wD T.h D.h ⟨h1, h3, Nat.le_of_ble_eq_true h4⟩ hs.eq hag ha (by rw [← hl, ← hh.eq]; simp) (by rw [hh.eq, hh'.eq]))) q hg
theorem xaf {α : Type} {E : α → V} {ml mm r : List α} {sz by_ r0 kk : Nat} {zz : Value} {ag : Bool} [T : TiC P u ⟨.slice e, sz, by_, zz⟩] [D : TiC P e di] (hx : a9 n fr x = some (.row (some false) 1 (ml.map E))) (hy : a9 n fr y = some v) (hE : ∀ x, (E x).cells = [E x]) (hs : Sr1 E h v mm) (hm : Nat.ble 1 mm.length = true) (h1 : di.zero.cells.size = 1) (h3 : di.size = 1) (h4 : Nat.ble 1 di.bytes = true) (hag : b5 di.desc = ag) {bb : Nat} (hbb : di.bytes = bb) (ha : app bb ml mm = some r) (hh : Snoc h (some ⟨e, r.map E⟩) h') (hl : h.length = r0) (hg : Gd ops n fr gd) (q : OpsX P N m ops l (aG n ((t, .sl r0 0 r.length 1 ag) :: fr)) h' K) : OpsX P N m ops (⟨some t, .call ⟨.builtin .append, #[x, y], #[u, u]⟩, ty, pos, aft, gd⟩ :: l) (aG n fr) h K := by
  subst hbb; exact xS (bV hx hy (aOL T.h D.h ⟨h1, h3, Nat.le_of_ble_eq_true h4⟩ hE hs.eq (Nat.le_of_ble_eq_true hm) hag ha hl (by rw [hh.eq]))) q hg
theorem aPv {α : Type} {C : α → List V} {ml mm r : List α} {q0 sz by_ r0 : Nat} {zz : Value} {h2 : Hp} [T : TiC P u ⟨.slice e, sz, by_, zz⟩] [D : TiC P e di] (hx : a9 n fr x = some (.sl o 0 q0 p true)) (hy : a9 n fr y = some v) (hb : h[o]? = some (some ⟨e, ml.flatMap C⟩)) (hC : ∀ x, (C x).length = p) (hs : SrK C p h v mm) (hn : ml.length = q0) (h1 : di.zero.cells.size = p) (h3 : di.size = p) (h4 : Nat.ble 1 di.bytes = true) (h5 : Nat.ble 1 p = true) {bb : Nat} (hbb : di.bytes = bb) (ha : app bb ml mm = some r) (hh : LSet h o none h2) (hh' : Snoc h2 (some ⟨e, r.flatMap C⟩) h') (hl : h.length = r0) (hg : Gd ops n fr gd) (q : OpsX P N m ops l (aG n ((t, .sl r0 0 r.length p true) :: fr)) h' K) : OpsX P N m ops (⟨some t, .call ⟨.builtin .append, #[x, y], #[u, u]⟩, ty, pos, aft, gd⟩ :: l) (aG n fr) h K := by
  subst hbb; exact xS (bV hx hy (aN0 hC hn T.h D.h ⟨h1, h3, Nat.le_of_ble_eq_true h4, Nat.le_of_ble_eq_true h5⟩ hb hs.eq ha hl (by rw [hh.eq, hh'.eq]))) q hg
theorem aPi {α : Type} {C : α → List V} {mm r : List α} {sz by_ r0 kk : Nat} {zz : Value} {h2 : Hp} [T : TiC P u ⟨.slice e, sz, by_, zz⟩] [D : TiC P e di] (hx : a9 n fr x = some (.row (some true) kk [])) (hy : a9 n fr y = some v) (hs : SrK C p h v mm) (h1 : di.zero.cells.size = p) (h3 : di.size = p) (h4 : Nat.ble 1 di.bytes = true) (h5 : Nat.ble 1 p = true) (hag : b5 di.desc = true) {bb : Nat} (hbb : di.bytes = bb) (ha : app bb [] mm = some r) (hh : Snoc h none h2) (hh' : Snoc h2 (some ⟨e, r.flatMap C⟩) h') (hl : h2.length = r0) (hg : Gd ops n fr gd) (q : OpsX P N m ops l (aG n ((t, .sl r0 0 r.length p true) :: fr)) h' K) : OpsX P N m ops (⟨some t, .call ⟨.builtin .append, #[x, y], #[u, u]⟩, ty, pos, aft, gd⟩ :: l) (aG n fr) h K := by
  subst hbb; exact xS (bV hx hy (aN4 T.h D.h ⟨h1, h3, Nat.le_of_ble_eq_true h4, Nat.le_of_ble_eq_true h5⟩ hs.eq hag ha (by rw [← hl, ← hh.eq]; simp) (by rw [hh.eq, hh'.eq]))) q hg
end
structure aPc (q : Prop) : Prop where
  h : q
section
variable {P : Program} {N n t : Nat} {m : Option (List Nat × List Nat)} {ops : Array Oper} {l : List Oper} {h : Hp} {K : List V → Hp → Prop} {op : Op} {ty : TypeId} {pos : String} {aft : Array Edge} {gd : Option (Nat × Bool)} {x y z : Operand} {Q : Ex → List V → Hp → Prop} {s : List V} {o e : Nat} {u w : TypeId} {bo : BinOp} {ob : Oper} {c : Code} {ws : List Operand} {ts : Array TypeId} {ps : List (Nat × Operand)} {lo hi : Option Operand} {hj mj : Operand}
theorem isX (k : OpsX P N m ops (ob :: l) s h K) : OpsX P N m ops (ob :: l) s h K := k
theorem isA (k : AB P N c Q s h) : AB P N c Q s h := k
theorem aLr (k : OpsX P N m ops (⟨some t, .call ⟨.builtin .len, ws.toArray, ts⟩, ty, pos, aft, gd⟩ :: l) s h K) : OpsX P N m ops (⟨some t, .call ⟨.builtin .len, ws.toArray, ts⟩, ty, pos, aft, gd⟩ :: l) s h K := k
theorem aNb (k : OpsX P N m ops (⟨some t, .call ⟨.builtin .append, ws.toArray, ts⟩, ty, pos, aft, gd⟩ :: l) s h K) : OpsX P N m ops (⟨some t, .call ⟨.builtin .append, ws.toArray, ts⟩, ty, pos, aft, gd⟩ :: l) s h K := k
theorem aMM (k : OpsX P N m ops (⟨some t, .move x, ty, pos, aft, gd⟩ :: l) s h K) : OpsX P N m ops (⟨some t, .move x, ty, pos, aft, gd⟩ :: l) s h K := k
theorem aLT (k : OpsX P N m ops (⟨some t, .load u x, ty, pos, aft, gd⟩ :: l) s h K) : OpsX P N m ops (⟨some t, .load u x, ty, pos, aft, gd⟩ :: l) s h K := k
theorem aM5 (k : OpsX P N m ops (⟨some t, .binOp bo u x y w, ty, pos, aft, gd⟩ :: l) s h K) : OpsX P N m ops (⟨some t, .binOp bo u x y w, ty, pos, aft, gd⟩ :: l) s h K := k
theorem aOd (k : OpsX P N m ops (⟨some t, .fieldAddr u x o, ty, pos, aft, gd⟩ :: l) s h K) : OpsX P N m ops (⟨some t, .fieldAddr u x o, ty, pos, aft, gd⟩ :: l) s h K := k
theorem aM7 (k : OpsX P N m ops (⟨some t, .assign x, ty, pos, aft, gd⟩ :: l) s h K) : OpsX P N m ops (⟨some t, .assign x, ty, pos, aft, gd⟩ :: l) s h K := k
theorem aOn (k : OpsX P N m ops (⟨some t, .indexAddr u x y, ty, pos, aft, gd⟩ :: l) s h K) : OpsX P N m ops (⟨some t, .indexAddr u x y, ty, pos, aft, gd⟩ :: l) s h K := k
theorem aOu (k : OpsX P N m ops (⟨none, .store u x y, ty, pos, aft, gd⟩ :: l) s h K) : OpsX P N m ops (⟨none, .store u x y, ty, pos, aft, gd⟩ :: l) s h K := k
theorem aOt (k : OpsX P N m ops (⟨some t, .alloc e, ty, pos, aft, gd⟩ :: l) s h K) : OpsX P N m ops (⟨some t, .alloc e, ty, pos, aft, gd⟩ :: l) s h K := k
theorem aN2 (k : OpsX P N m ops (⟨some t, .buildSlice u o ps.toArray, ty, pos, aft, gd⟩ :: l) s h K) : OpsX P N m ops (⟨some t, .buildSlice u o ps.toArray, ty, pos, aft, gd⟩ :: l) s h K := k
theorem aOy (k : OpsX P N m ops (⟨some t, .slice u x lo (some hj) (some mj), ty, pos, aft, gd⟩ :: l) s h K) : OpsX P N m ops (⟨some t, .slice u x lo (some hj) (some mj), ty, pos, aft, gd⟩ :: l) s h K := k
theorem aN7 (k : OpsX P N m ops (⟨some t, .slice u x lo hi none, ty, pos, aft, gd⟩ :: l) s h K) : OpsX P N m ops (⟨some t, .slice u x lo hi none, ty, pos, aft, gd⟩ :: l) s h K := k
theorem aOo (k : OpsX P N m ops (⟨some t, .pick x y z, ty, pos, aft, gd⟩ :: l) s h K) : OpsX P N m ops (⟨some t, .pick x y z, ty, pos, aft, gd⟩ :: l) s h K := k
theorem aOm (k : OpsX P N m ops (⟨some t, .nilCheck x, ty, pos, aft, gd⟩ :: l) s h K) : OpsX P N m ops (⟨some t, .nilCheck x, ty, pos, aft, gd⟩ :: l) s h K := k
end
theorem zz {p q : Prop} (k : q) (h : aPc q → p := by (intro kk; (repeat (first | (apply isX; first | ((with_reducible apply aLr); first | (apply xlR; exact rfl; (first | exact True.intro | exact ⟨_, rfl, _, rfl, by assumption⟩)) | (apply xlS; exact rfl; (first | exact True.intro | exact ⟨_, rfl, _, rfl, by assumption⟩)) | (apply xlT; exact rfl; (first | exact True.intro | exact ⟨_, rfl, _, rfl, by assumption⟩))) | ((with_reducible apply aNb); first | (apply xap; exact rfl; exact rfl; exact rfl; (first | exact Sr1.n | (apply Sr1.r; exact (fun _ => rfl)) | (apply Sr1.s; exact rfl; (first | exact rfl | exact (by simp only [bR, bQ, List.length_replicate]; done) | exact aQ (by assumption) | exact bP (by assumption)))); (first | exact rfl | exact (by simp only [bR, bQ, List.length_replicate]; done) | exact aQ (by assumption) | exact bP (by assumption)); exact rfl; exact rfl; exact rfl; exact rfl; assumption; (repeat (first | exact LSet.z | apply LSet.s)); (repeat (first | exact Snoc.n | apply Snoc.c)); (first | exact (by simp only [List.length_cons, List.length_nil, Nat.zero_add, Nat.reduceAdd] <;> rfl) | exact rfl); (first | exact True.intro | exact ⟨_, rfl, _, rfl, by assumption⟩)) | (apply xan; exact rfl; exact rfl; (first | exact Sr1.n | (apply Sr1.r; exact (fun _ => rfl)) | (apply Sr1.s; exact rfl; (first | exact rfl | exact (by simp only [bR, bQ, List.length_replicate]; done) | exact aQ (by assumption) | exact bP (by assumption)))); exact rfl; exact rfl; exact rfl; exact rfl; exact rfl; assumption; (repeat (first | exact Snoc.n | apply Snoc.c)); (repeat (first | exact Snoc.n | apply Snoc.c)); (first | exact (by simp only [List.length_cons, List.length_nil, Nat.zero_add, Nat.reduceAdd] <;> rfl) | exact rfl); (first | exact True.intro | exact ⟨_, rfl, _, rfl, by assumption⟩)) | (apply xaf; exact rfl; exact rfl; exact (fun _ => rfl); (first | exact Sr1.n | (apply Sr1.r; exact (fun _ => rfl)) | (apply Sr1.s; exact rfl; (first | exact rfl | exact (by simp only [bR, bQ, List.length_replicate]; done) | exact aQ (by assumption) | exact bP (by assumption)))); (first | exact rfl); exact rfl; exact rfl; exact rfl; exact rfl; exact rfl; assumption; (repeat (first | exact Snoc.n | apply Snoc.c)); (first | exact (by simp only [List.length_cons, List.length_nil, Nat.zero_add, Nat.reduceAdd] <;> rfl) | exact rfl); (first | exact True.intro | exact ⟨_, rfl, _, rfl, by assumption⟩)) | (apply aPv; exact rfl; exact rfl; exact rfl; exact (fun _ => rfl); (first | exact SrK.n | exact SrK.r | (apply SrK.s; exact (fun _ => rfl); exact rfl; (first | exact rfl | exact (by simp only [bR, bQ, List.length_replicate]; done) | exact aQ (by assumption) | exact bP (by assumption)))); (first | exact rfl | exact (by simp only [bR, bQ, List.length_replicate]; done) | exact aQ (by assumption) | exact bP (by assumption)); exact rfl; exact rfl; exact rfl; exact rfl; exact rfl; assumption; (repeat (first | exact LSet.z | apply LSet.s)); (repeat (first | exact Snoc.n | apply Snoc.c)); (first | exact (by simp only [List.length_cons, List.length_nil, Nat.zero_add, Nat.reduceAdd] <;> rfl) | exact rfl); (first | exact True.intro | exact ⟨_, rfl, _, rfl, by assumption⟩)) | (apply aPi; exact rfl; exact rfl; (first | exact SrK.n | exact SrK.r | (apply SrK.s; exact (fun _ => rfl); exact rfl; (first | exact rfl | exact (by simp only [bR, bQ, List.length_replicate]; done) | exact aQ (by assumption) | exact bP (by assumption)))); exact rfl; exact rfl; exact rfl; exact rfl; exact rfl; exact rfl; assumption; (repeat (first | exact Snoc.n | apply Snoc.c)); (repeat (first | exact Snoc.n | apply Snoc.c)); (first | exact (by simp only [List.length_cons, List.length_nil, Nat.zero_add, Nat.reduceAdd] <;> rfl) | exact rfl); (first | exact True.intro | exact ⟨_, rfl, _, rfl, by assumption⟩))) | ((with_reducible apply aMM); first | (apply xmc; (first | exact OfC.i | exact OfC.b | exact OfC.l | exact OfC.s | exact OfC.p); (first | exact True.intro | exact ⟨_, rfl, _, rfl, by assumption⟩)) | (apply xm; exact rfl; (first | exact True.intro | exact ⟨_, rfl, _, rfl, by assumption⟩))) | ((with_reducible apply aLT); first | (apply xl1; exact rfl; exact rfl; exact rfl; exact rfl; (first | exact True.intro | exact ⟨_, rfl, _, rfl, by assumption⟩)) | (apply aPl; exact rfl; exact rfl; (first | assumption | exact nF (by assumption)); exact rfl; (first | exact True.intro | exact ⟨_, rfl, _, rfl, by assumption⟩)) | (apply xlX; exact rfl; exact rfl; exact rfl; (first | assumption | exact nF (by assumption)); (first | exact True.intro | exact ⟨_, rfl, _, rfl, by assumption⟩)) | (apply xlN; exact rfl; exact rfl; (first | exact Tak.w rfl | (repeat (first | exact Tak.d | (apply Tak.t; (first | exact IsA.c | exact IsA.a4 | exact IsA.a32 | exact IsA.a8 | exact IsA.a20 | exact IsA.a64); exact rfl) | (apply Tak.s; (first | exact IsA.c | exact IsA.a4 | exact IsA.a32 | exact IsA.a8 | exact IsA.a20 | exact IsA.a64); exact rfl)))); (first | exact True.intro | exact ⟨_, rfl, _, rfl, by assumption⟩)) | (apply aO4; exact rfl; (first | assumption | exact nF (by assumption)); exact rfl; (first | exact Tak.w rfl | (repeat (first | exact Tak.d | (apply Tak.t; (first | exact IsA.c | exact IsA.a4 | exact IsA.a32 | exact IsA.a8 | exact IsA.a20 | exact IsA.a64); exact rfl) | (apply Tak.s; (first | exact IsA.c | exact IsA.a4 | exact IsA.a32 | exact IsA.a8 | exact IsA.a20 | exact IsA.a64); exact rfl)))); (first | exact True.intro | exact ⟨_, rfl, _, rfl, by assumption⟩)) | (apply xlB; exact rfl; exact rfl; exact rfl; (first | exact rfl | exact (by simp only [bR, bQ, List.length_replicate]; done) | exact aQ (by assumption) | exact bP (by assumption)); (first | exact True.intro | exact ⟨_, rfl, _, rfl, by assumption⟩)) | (apply xlA; exact rfl; exact rfl; (first | exact Tak.w rfl | (repeat (first | exact Tak.d | (apply Tak.t; (first | exact IsA.c | exact IsA.a4 | exact IsA.a32 | exact IsA.a8 | exact IsA.a20 | exact IsA.a64); exact rfl) | (apply Tak.s; (first | exact IsA.c | exact IsA.a4 | exact IsA.a32 | exact IsA.a8 | exact IsA.a20 | exact IsA.a64); exact rfl)))); (first | (apply ArM.a32; (first | exact rfl | exact (by simp only [bR, bQ, List.length_replicate]; done) | exact aQ (by assumption) | exact bP (by assumption))) | (apply ArM.a4; (first | exact rfl | exact (by simp only [bR, bQ, List.length_replicate]; done) | exact aQ (by assumption) | exact bP (by assumption))) | (apply ArM.a8; (first | exact rfl | exact (by simp only [bR, bQ, List.length_replicate]; done) | exact aQ (by assumption) | exact bP (by assumption))) | (apply ArM.a20; (first | exact rfl | exact (by simp only [bR, bQ, List.length_replicate]; done) | exact aQ (by assumption) | exact bP (by assumption))) | (apply ArM.a64; (first | exact rfl | exact (by simp only [bR, bQ, List.length_replicate]; done) | exact aQ (by assumption) | exact bP (by assumption)))); (first | exact True.intro | exact ⟨_, rfl, _, rfl, by assumption⟩)) | (apply aPm; exact rfl; (first | assumption | exact nF (by assumption)); exact rfl; (first | exact Tak.w rfl | (repeat (first | exact Tak.d | (apply Tak.t; (first | exact IsA.c | exact IsA.a4 | exact IsA.a32 | exact IsA.a8 | exact IsA.a20 | exact IsA.a64); exact rfl) | (apply Tak.s; (first | exact IsA.c | exact IsA.a4 | exact IsA.a32 | exact IsA.a8 | exact IsA.a20 | exact IsA.a64); exact rfl)))); (first | (apply ArM.a32; (first | exact rfl | exact (by simp only [bR, bQ, List.length_replicate]; done) | exact aQ (by assumption) | exact bP (by assumption))) | (apply ArM.a4; (first | exact rfl | exact (by simp only [bR, bQ, List.length_replicate]; done) | exact aQ (by assumption) | exact bP (by assumption))) | (apply ArM.a8; (first | exact rfl | exact (by simp only [bR, bQ, List.length_replicate]; done) | exact aQ (by assumption) | exact bP (by assumption))) | (apply ArM.a20; (first | exact rfl | exact (by simp only [bR, bQ, List.length_replicate]; done) | exact aQ (by assumption) | exact bP (by assumption))) | (apply ArM.a64; (first | exact rfl | exact (by simp only [bR, bQ, List.length_replicate]; done) | exact aQ (by assumption) | exact bP (by assumption)))); (first | exact True.intro | exact ⟨_, rfl, _, rfl, by assumption⟩))) | ((with_reducible apply aM5); first | (apply xb; exact rfl; exact rfl; exact rfl; (first | exact True.intro | exact ⟨_, rfl, _, rfl, by assumption⟩)) | (apply aPs; exact rfl; exact rfl; assumption; (first | exact True.intro | exact ⟨_, rfl, _, rfl, by assumption⟩)) | (apply aPA; exact rfl; exact rfl; assumption; (first | exact True.intro | exact ⟨_, rfl, _, rfl, by assumption⟩)) | (apply aOO; exact rfl; exact rfl; (first | assumption | exact rfl); (first | exact True.intro | exact ⟨_, rfl, _, rfl, by assumption⟩)) | (apply aO0; exact rfl; exact rfl; (first | assumption | exact rfl); (first | exact True.intro | exact ⟨_, rfl, _, rfl, by assumption⟩)) | (apply xeA; exact rfl; exact rfl; exact rfl; (first | exact rfl | exact (by simp only [bR, bQ, List.length_replicate]; done) | exact aQ (by assumption) | exact bP (by assumption)); (first | exact rfl | exact (by simp only [bR, bQ, List.length_replicate]; done) | exact aQ (by assumption) | exact bP (by assumption)); (first | exact True.intro | exact ⟨_, rfl, _, rfl, by assumption⟩)) | (apply xnA; exact rfl; exact rfl; exact rfl; (first | exact rfl | exact (by simp only [bR, bQ, List.length_replicate]; done) | exact aQ (by assumption) | exact bP (by assumption)); (first | exact rfl | exact (by simp only [bR, bQ, List.length_replicate]; done) | exact aQ (by assumption) | exact bP (by assumption)); (first | exact True.intro | exact ⟨_, rfl, _, rfl, by assumption⟩))) | ((with_reducible apply aOd); first | (apply xfp; exact rfl; (first | (with_reducible exact Nat.zero_add _) | exact rfl); (first | exact True.intro | exact ⟨_, rfl, _, rfl, by assumption⟩)) | (apply xfe; exact rfl; (first | (with_reducible exact Nat.zero_add _) | exact rfl); (first | exact True.intro | exact ⟨_, rfl, _, rfl, by assumption⟩))) | ((with_reducible apply aM7); first | (apply xac; (first | exact OfC.i | exact OfC.b | exact OfC.l | exact OfC.s | exact OfC.p); (first | exact True.intro | exact ⟨_, rfl, _, rfl, by assumption⟩)) | (apply xa; exact rfl; (first | exact True.intro | exact ⟨_, rfl, _, rfl, by assumption⟩))) | (apply xe; exact rfl; exact rfl; (first | exact True.intro | exact ⟨_, rfl, _, rfl, by assumption⟩)) | ((with_reducible apply aOn); first | (apply xiR; exact rfl; exact rfl; exact rfl; (first | assumption | exact nF (by assumption)); (first | exact True.intro | exact ⟨_, rfl, _, rfl, by assumption⟩)) | (apply xiS; exact rfl; exact rfl; exact rfl; (first | assumption | exact nF (by assumption)); (first | exact rfl | exact (by simp only [bR, bQ, List.length_replicate]; done) | exact aQ (by assumption) | exact bP (by assumption)); exact rfl; (first | exact True.intro | exact ⟨_, rfl, _, rfl, by assumption⟩)) | (apply xiB; exact rfl; exact rfl; exact rfl; assumption; exact rfl; (first | exact True.intro | exact ⟨_, rfl, _, rfl, by assumption⟩)) | (apply xiK; exact rfl; exact rfl; exact rfl; (first | assumption | exact nF (by assumption)); (first | exact rfl | exact (by simp only [bR, bQ, List.length_replicate]; done) | exact aQ (by assumption) | exact bP (by assumption)); exact rfl; (first | exact True.intro | exact ⟨_, rfl, _, rfl, by assumption⟩))) | (apply xci; exact rfl; (first | exact True.intro | exact ⟨_, rfl, _, rfl, by assumption⟩)) | ((with_reducible apply aOu); first | (apply xsA; exact rfl; exact rfl; exact rfl; exact rfl; exact (fun _ => rfl); (first | exact rfl | exact (by simp only [bR, bQ, List.length_replicate]; done) | exact aQ (by assumption) | exact bP (by assumption)); (first | exact rfl | exact (by simp only [bR, bQ, List.length_replicate]; done) | exact aQ (by assumption) | exact bP (by assumption)); (repeat (first | exact LSet.z | apply LSet.s)); (first | exact True.intro | exact ⟨_, rfl, _, rfl, by assumption⟩)) | (apply xs; exact rfl; exact rfl; exact rfl; (first | exact Cel.a rfl | exact Cel.o rfl rfl | exact Cel.m (fun _ => rfl)); exact rfl; exact rfl; (first | exact Spl.w rfl | (repeat (first | exact Spl.d | (apply Spl.p; (first | exact IsA.c | exact IsA.a4 | exact IsA.a32 | exact IsA.a8 | exact IsA.a20 | exact IsA.a64); (first | exact IsA.c | exact IsA.a4 | exact IsA.a32 | exact IsA.a8 | exact IsA.a20 | exact IsA.a64)) | (apply Spl.s; (first | exact IsA.c | exact IsA.a4 | exact IsA.a32 | exact IsA.a8 | exact IsA.a20 | exact IsA.a64); exact rfl)))); (repeat (first | exact LSet.z | apply LSet.s)); (first | exact True.intro | exact ⟨_, rfl, _, rfl, by assumption⟩)) | (apply xsX; exact rfl; exact rfl; exact rfl; exact rfl; (first | assumption | exact nF (by assumption)); exact rfl; exact rfl; (repeat (first | exact LSet.z | apply LSet.s)); (first | exact True.intro | exact ⟨_, rfl, _, rfl, by assumption⟩))) | ((with_reducible apply aOt); first | (apply aOU; exact rfl; (repeat (first | exact Snoc.n | apply Snoc.c)); (first | exact (by simp only [List.length_cons, List.length_nil, Nat.zero_add, Nat.reduceAdd] <;> rfl) | exact rfl); (first | exact True.intro | exact ⟨_, rfl, _, rfl, by assumption⟩)) | (apply xal; (first | (apply Zro.o; (first | exact OfC.i | exact OfC.b | exact OfC.l | exact OfC.s | exact OfC.p)) | (apply Zro.a; repeat (first | exact OfCs.n | (apply OfCs.c; (first | exact OfC.i | exact OfC.b | exact OfC.l | exact OfC.s | exact OfC.p))))); (repeat (first | exact Snoc.n | apply Snoc.c)); (first | exact (by simp only [List.length_cons, List.length_nil, Nat.zero_add, Nat.reduceAdd] <;> rfl) | exact rfl); (first | exact True.intro | exact ⟨_, rfl, _, rfl, by assumption⟩))) | (apply xbx; exact rfl; (first | exact Cel.a rfl | exact Cel.o rfl rfl | exact Cel.m (fun _ => rfl)); (repeat (first | exact Snoc.n | apply Snoc.c)); (first | exact (by simp only [List.length_cons, List.length_nil, Nat.zero_add, Nat.reduceAdd] <;> rfl) | exact rfl); (first | exact True.intro | exact ⟨_, rfl, _, rfl, by assumption⟩)) | ((with_reducible apply aN2); first | (apply aOM; exact rfl; (repeat (first | exact NumK.n | apply NumK.c)); exact rfl; exact rfl; exact rfl; exact rfl; (repeat (first | exact Snoc.n | apply Snoc.c)); (first | exact (by simp only [List.length_cons, List.length_nil, Nat.zero_add, Nat.reduceAdd] <;> rfl) | exact rfl); (first | exact True.intro | exact ⟨_, rfl, _, rfl, by assumption⟩)) | (apply aPF; exact rfl; (repeat (first | exact NumR.n | apply NumR.z | apply NumR.c)); exact rfl; exact rfl; exact rfl; exact rfl; (repeat (first | exact Snoc.n | apply Snoc.c)); (first | exact (by simp only [List.length_cons, List.length_nil, Nat.zero_add, Nat.reduceAdd] <;> rfl) | exact rfl); (first | exact True.intro | exact ⟨_, rfl, _, rfl, by assumption⟩)) | (apply aPS; exact rfl; (repeat (first | exact NumB.n | apply NumB.c)); exact rfl; exact rfl; exact rfl; exact rfl; (repeat (first | exact Snoc.n | apply Snoc.c)); (first | exact (by simp only [List.length_cons, List.length_nil, Nat.zero_add, Nat.reduceAdd] <;> rfl) | exact rfl); (first | exact True.intro | exact ⟨_, rfl, _, rfl, by assumption⟩))) | ((with_reducible apply aOy); first | (apply xsM; exact rfl; exact rfl; exact rfl; exact rfl; exact rfl; assumption; exact rfl; (first | exact True.intro | exact ⟨_, rfl, _, rfl, by assumption⟩))) | ((with_reducible apply aN7); first | (apply xsR; exact rfl; exact rfl; exact rfl; exact rfl; exact rfl; assumption; exact rfl; exact rfl; (first | exact True.intro | exact ⟨_, rfl, _, rfl, by assumption⟩)) | (apply xsL; exact rfl; exact rfl; exact rfl; exact rfl; (first | exact rfl | exact (by simp only [bR, bQ, List.length_replicate]; done) | exact aQ (by assumption) | exact bP (by assumption)); exact rfl; exact rfl; (first | exact True.intro | exact ⟨_, rfl, _, rfl, by assumption⟩)) | (apply xsE; exact rfl; exact rfl; exact rfl; (first | exact rfl | exact (by simp only [bR, bQ, List.length_replicate]; done) | exact aQ (by assumption) | exact bP (by assumption)); exact rfl; (first | exact True.intro | exact ⟨_, rfl, _, rfl, by assumption⟩))) | (apply xno; exact rfl; (first | exact True.intro | exact ⟨_, rfl, _, rfl, by assumption⟩)) | (apply xbd; exact rfl; (first | (apply Zro.o; (first | exact OfC.i | exact OfC.b | exact OfC.l | exact OfC.s | exact OfC.p)) | (apply Zro.a; repeat (first | exact OfCs.n | (apply OfCs.c; (first | exact OfC.i | exact OfC.b | exact OfC.l | exact OfC.s | exact OfC.p))))); (repeat (first | exact Fil.n | (apply Fil.c; exact rfl; (first | exact Cel.a rfl | exact Cel.o rfl rfl | exact Cel.m (fun _ => rfl)); exact rfl; exact rfl; (first | exact Spl.w rfl | (repeat (first | exact Spl.d | (apply Spl.p; (first | exact IsA.c | exact IsA.a4 | exact IsA.a32 | exact IsA.a8 | exact IsA.a20 | exact IsA.a64); (first | exact IsA.c | exact IsA.a4 | exact IsA.a32 | exact IsA.a8 | exact IsA.a20 | exact IsA.a64)) | (apply Spl.s; (first | exact IsA.c | exact IsA.a4 | exact IsA.a32 | exact IsA.a8 | exact IsA.a20 | exact IsA.a64); exact rfl))))))); (first | exact True.intro | exact ⟨_, rfl, _, rfl, by assumption⟩)) | (apply xfd; exact rfl; exact rfl; exact rfl; exact rfl; (first | exact True.intro | exact ⟨_, rfl, _, rfl, by assumption⟩)) | ((with_reducible apply aOo); first | (apply xpT; exact rfl; (first | assumption | exact rfl); exact rfl; (first | exact True.intro | exact ⟨_, rfl, _, rfl, by assumption⟩)) | (apply xpF; exact rfl; (first | assumption | exact rfl); exact rfl; (first | exact True.intro | exact ⟨_, rfl, _, rfl, by assumption⟩))) | ((with_reducible apply aOm); first | (apply xnp; exact rfl; (first | exact True.intro | exact ⟨_, rfl, _, rfl, by assumption⟩)) | (apply xne; exact rfl; (first | exact True.intro | exact ⟨_, rfl, _, rfl, by assumption⟩))) | (apply xVv; exact rfl; exact rfl) | (apply xXx; exact rfl; exact rfl; assumption)) | apply OpsX.nil | ((with_reducible apply isA); first | ((with_reducible apply xqn); exact rfl) | (with_reducible apply AB.skip) | ((with_reducible apply xrn); exact rfl) | (with_reducible apply AB.ret) | (with_reducible apply AB.exit)) | (with_reducible apply Ex.then_mk) | (with_reducible apply Ex.inBlock_mk) | (with_reducible apply Ex.then_exit_mk) | (with_reducible apply Ex.inBlock_same_mk) | ((with_reducible apply Ex.inBlock_other_mk); exact rfl) | (with_reducible apply Ex.then_ret_mk) | (with_reducible apply Ex.inBlock_ret_mk))); exact kk.1)) : p := h ⟨k⟩
end Go.Vm
set_option linter.unusedSimpArgs false
set_option linter.unusedVariables false
namespace Go.Vm
open Go
theorem Conv.ptr {α : Type} {E : α → V} {l : List α} {h h' : Hp} (hs : Sub h h') {b : Nat} {e : TypeId} (hb : h[b]? = some (some ⟨e, l.map E⟩)) (hb' : h'[b]? = some none) (hsh : ∀ x, (E x).shut = true) (hn : 0 < l.length) : Conv h h' (.ptr b 0) (.eptr [.agg (l.map E)] 0 0) := by
  intro A M w v H hv
  obtain ⟨hone, _⟩ := H.blk b _ hb
  unfold VR at hv ⊢
  obtain ⟨g, sh, hm, rfl, hshp⟩ := hv
  obtain ⟨_, ⟨hm', _⟩ | ⟨g', aR, hm', hA, _⟩⟩ := H.blk b _ hb
  · rw [hm] at hm'; cases hm'
  rw [hm] at hm'
  injection hm' with hm'
  injection hm' with hm'
  subst hm'
  obtain ⟨vs, hvs, hl⟩ := aAM H hb hm hshp 0
  rw [List.drop_zero] at hvs
  have hX : ¬ Xs A M h' g := by
    rintro (ha | ⟨c, C, hc, hmc⟩)
    · exact hA ha
    · obtain ⟨C', hc'⟩ := hs c C hc
      have := H.inj c b C' _ g hc' hb hmc hm
      subst this
      rw [hb'] at hc; cases hc
  have hc2 : VCells (Xs A M h') [] w (l.map E) vs := VCells.mk hvs.len fun i c u hc hu => by
    obtain ⟨u', hu', hr⟩ := hvs.get hc
    rw [hu] at hu'
    injection hu' with hu'
    subst hu'
    have : c.shut = true := by
      rw [List.getElem?_map] at hc
      cases hq : l[i]? with
      | none => rw [hq] at hc; cases hc
      | some y => rw [hq] at hc; injection hc with hc; subst hc; exact hsh y
    exact (hr.shut this).avoid (fun _ _ hx => hs.xs hx)
  refine ⟨⟨g, 0, none⟩, l.length, ?_, hn, fun _ => hX, rfl, ?_, ?_⟩
  · simp [Addr.add]
  · intro e' he'
    rw [List.mem_singleton] at he'
    subst he'
    simp only [V.okElem, V.flatOk, V.cells, Bool.and_eq_true, beq_iff_eq, List.length_map, and_true]
    exact List.all_eq_true.2 hone
  · unfold VRow
    refine ⟨⟨.agg vs.toArray, by unfold VR; exact ⟨vs, rfl, hc2⟩, ?_, ?_⟩, by unfold VRow; trivial⟩
    · show vs.toArray.size = l.length
      rw [List.size_toArray, ← hvs.len, List.length_map]
    · exact hl
inductive PCv (h h' : Hp) : List (Nat × V) → List (Nat × V) → Prop
  | n : PCv h h' [] []
  | s {t : Nat} {x : V} {fr fr' : List (Nat × V)} : PCv h h' fr fr' → PCv h h' ((t, x) :: fr) ((t, x) :: fr')
  | r {t b q : Nat} {e : TypeId} {cs : List V} {ag : Bool} {fr fr' : List (Nat × V)} : h[b]? = some (some ⟨e, cs⟩) → h'[b]? = some none → cs.all V.shut = true → q = cs.length → PCv h h' fr fr' → PCv h h' ((t, .sl b 0 q 1 ag) :: fr) ((t, .row none 1 cs) :: fr')
  | p {α : Type} {E : α → V} {l : List α} {t b : Nat} {e : TypeId} {fr fr' : List (Nat × V)} : h[b]? = some (some ⟨e, l.map E⟩) → h'[b]? = some none → (∀ x, (E x).shut = true) → Nat.ble 1 l.length = true → PCv h h' fr fr' → PCv h h' ((t, .ptr b 0) :: fr) ((t, .eptr [.agg (l.map E)] 0 0) :: fr')
  | k {α : Type} {C : α → List V} {K : Nat} {l : List α} {t b q : Nat} {e : TypeId} {fr fr' : List (Nat × V)} : h[b]? = some (some ⟨e, l.flatMap C⟩) → h'[b]? = some none → (∀ x, (C x).length = K) → (∀ x, (C x).all V.one = true) → (∀ x, (C x).all V.shut = true) → q = l.length → PCv h h' fr fr' → PCv h h' ((t, .sl b 0 q K true) :: fr) ((t, .row none K (l.map fun x => V.agg (C x))) :: fr')
theorem PCv.get {h h' : Hp} (hs : Sub h h') {fr fr' : List (Nat × V)} (p : PCv h h' fr fr') : ∀ (t : Nat) (y : V), fO fr' t = some y → ∃ x, fO fr t = some x ∧ Conv h h' x y := by
  induction p with
  | n => intro t y hy; cases hy
  | @s u x fr fr' _ ih =>
    intro t y hy
    simp only [fO] at hy ⊢
    cases hb : Nat.beq u t with
    | true => rw [hb] at hy; simp only [cond_true, Option.some.injEq] at hy ⊢; subst hy; exact ⟨x, rfl, Conv.same hs⟩
    | false => rw [hb] at hy; exact ih t y hy
  | @r u b q e cs ag fr fr' h1 h2 h3 h4 _ ih =>
    intro t y hy
    simp only [fO] at hy ⊢
    cases hb : Nat.beq u t with
    | true => rw [hb] at hy; simp only [cond_true, Option.some.injEq] at hy ⊢; subst hy; exact ⟨_, rfl, Conv.row hs h1 h2 h3 h4⟩
    | false => rw [hb] at hy; exact ih t y hy
  | @p α E l u b e fr fr' h1 h2 h3 h4 _ ih =>
    intro t y hy
    simp only [fO] at hy ⊢
    cases hb : Nat.beq u t with
    | true => rw [hb] at hy; simp only [cond_true, Option.some.injEq] at hy ⊢; subst hy; exact ⟨_, rfl, Conv.ptr hs h1 h2 h3 (Nat.le_of_ble_eq_true h4)⟩
    | false => rw [hb] at hy; exact ih t y hy
  | @k α C K l u b q e fr fr' h1 h2 h3 h4 h5 h6 _ ih =>
    intro t y hy
    simp only [fO] at hy ⊢
    cases hb : Nat.beq u t with
    | true => rw [hb] at hy; simp only [cond_true, Option.some.injEq] at hy ⊢; subst hy; exact ⟨_, rfl, Conv.rowK h3 h4 h5 hs h1 h2 h6⟩
    | false => rw [hb] at hy; exact ih t y hy
theorem Ghost.fz {N n b : Nat} {fr fr' : List (Nat × V)} {h h' : Hp} (he : h.set b none = h') (hp : PCv h h' fr fr') : Ghost N (aG n fr) h (aG n fr') h' := by
  subst he
  have hg : ∀ {j : Nat} {B : Blk}, (h.set b none)[j]? = some (some B) → h[j]? = some (some B) := by
    intro j B hj
    by_cases hij : b = j
    · subst hij
      rw [List.getElem?_set] at hj
      split at hj
      · split at hj <;> cases hj
      · rename_i hne; exact absurd rfl hne
    · rwa [List.getElem?_set_ne hij] at hj
  have hs : Sub h (h.set b none) := fun j B hj => ⟨B, hg hj⟩
  intro A M a w hN R
  refine ⟨M, rfl, ⟨⟨by rw [List.length_set]; exact R.hr.len, R.hr.alt, ?_, ?_, R.hr.glob.avoid fun g _ hx => hx.elim .inl (fun hl => .inr (hs.live hl))⟩, ?_, R.defers⟩, fun g hl => hs.live hl⟩
  · intro j B hj
    obtain ⟨h1, h2⟩ := R.hr.blk j B (hg hj)
    refine ⟨h1, ?_⟩
    rcases h2 with ⟨hn, hc0⟩ | ⟨g, cs, hgm, hA, hw, hle, hcs⟩
    · exact .inl ⟨hn, hc0⟩
    · exact .inr ⟨g, cs, hgm, hA, hw, hle, hcs.avoid (fun g _ hx => hs.xs hx)⟩
  · intro i j B C g hi hj mi mj
    exact R.hr.inj i j B C g (hg hi) (hg hj) mi mj
  · exact aCv R.sr (fun t y hy => by
      obtain ⟨x, hx, hl⟩ := hp.get hs t y hy
      exact ⟨x, hx, fun v hv => hl A M w v R.hr hv⟩)
theorem zv {N n : Nat} {fr fr' : List (Nat × V)} {h h' : Hp} (b : Nat) (he : LSet h b none h' := by (repeat (first | exact LSet.z | apply LSet.s)))
    (hp : PCv h h' fr fr' := by (repeat (first | exact PCv.n | (apply PCv.p; exact rfl; exact rfl; exact (fun _ => rfl); (first | exact rfl | exact aHE (by assumption) rfl | exact aHx (by assumption) rfl)) | (apply PCv.r; exact rfl; exact rfl; exact pX (fun _ => rfl); (first | exact rfl | exact (by rw [List.length_map]; first | exact (aQ (by assumption)).symm | exact (bP (by assumption)).symm) | exact (by simp only [List.length_map, bR, bQ]; done))) | (apply PCv.k; exact rfl; exact rfl; exact (fun _ => rfl); exact (fun _ => rfl); exact (fun _ => rfl); (first | exact rfl | exact (by simp only [bR, bQ]))) | apply PCv.s))) : Ghost N (aG n fr) h (aG n fr') h' := Ghost.fz he.eq hp
theorem aOg {vn : Nat → Bool} {f : Nat → Nat} {c d : V} {cs ds : List V} (h : V.le vn c (d.rn f)) (k : V.les vn cs (V.rns f ds)) : V.les vn (c :: cs) (V.rns f (d :: ds)) := by
  simp only [V.rns]; exact V.les_cons h k
section
variable {vn : Nat → Bool} {f : Nat → Nat} {k : IntKind} {q : List Int} {r r' : List V}
theorem aNo (h : V.les vn r (V.rns f r')) : V.les vn (dG (eI k) q r) (V.rns f (dG (eI k) q r')) := by rw [o8]; exact aL7 h
theorem aM8 (h : V.les vn r (V.rns f r')) : V.les vn (ar8 (eI k) q r) (V.rns f (ar8 (eI k) q r')) := by rw [pF]; exact aLs h
theorem aLE (h : V.les vn r (V.rns f r')) : V.les vn (yA (eI k) q r) (V.rns f (yA (eI k) q r')) := by rw [mE]; exact aK4 h
theorem aLx (h : V.les vn r (V.rns f r')) : V.les vn (aO (eI k) q r) (V.rns f (aO (eI k) q r')) := by rw [mH]; exact aGo h
theorem aMn (h : V.les vn r (V.rns f r')) : V.les vn (xY (eI k) q r) (V.rns f (xY (eI k) q r')) := by rw [mO]; exact aKB h
end
theorem aPj {vn : Nat → Bool} {f : Nat → Nat} {cs ds : List V} (h : V.les vn cs (V.rns f ds)) : V.le vn (.agg cs) ((V.agg ds).rn f) := by simp only [V.rn]; exact V.le_agg h
theorem aOR {vn : Nat → Bool} {f : Nat → Nat} {cs ds : List V} (h : V.les vn cs (V.rns f ds)) : V.le vn (.tup cs) ((V.tup ds).rn f) := by simp only [V.rn]; exact V.le_tup h
theorem lev {p : Prop} (h : p := by (repeat (first | exact V.les_refl _ _ | exact V.les_nil | exact V.le_refl _ _ | exact V.le_nil | exact V.le_row | exact V.le_arr (fun _ => rfl) | exact V.le_virt rfl | exact aAC (fun _ => rfl) _ | exact zX (fun _ => rfl) _ | apply aOg | apply aLx | apply aNo | apply aM8 | apply aLE | apply aMn | apply aPj | apply aOR | exact (by simp only [bR, bQ]; exact V.le_refl _ _)))) : p := h
theorem aGX {p : Prop} (h : p := by first | exact rfl | exact all_map (fun _ => rfl) _ | exact mK (fun _ => rfl) _) : p := h
theorem rU {N n : Nat} {fr fr' : List (Nat × V)} {h h' : Hp} (σ : List Nat)
    (hf : FLe tM (V.rn (sg σ h.length)) fr fr' := by (repeat (first | exact FLe.nil | refine FLe.same rfl ?_ | refine FLe.le rfl lev ?_)))
    (hh : HLe (sg σ h.length) h σ h' := by (repeat (first | exact HLe.nil | refine HLe.dead ?_ | refine HLe.live rfl lev aGX ?_)))
    (hσ : σ.take N = List.range N := by rfl) (hlt : σ.all (fun b => Nat.blt b h.length) = true := by rfl) (hnd : ndB (lvs σ h') = true := by rfl) : Ghost N (aG n fr) h (aG n fr') h' := Ghost.rn σ hσ hlt hf hh hnd
theorem FLe.mapg {vn : Nat → Bool} {g : V → V} {fr : List (Nat × V)} : ∀ {fr' : List (Nat × V)}, FLe vn g fr fr' → FLe vn id fr (fr'.map fun p => (p.1, g p.2))
  | [], _ => FLe.nil
  | (t, y) :: r, h => ⟨h.1, FLe.mapg h.2⟩
theorem aF5 {g : V → V} : ∀ {fr : List (Nat × V)} {t : Nat} {y : V}, fO fr t = some y → fO (fr.map fun p => (p.1, g p.2)) t = some (g y)
  | [], _, _, h => by cases h
  | (u, x) :: r, t, y, h => by
    simp only [fO, List.map_cons] at h ⊢
    cases hb : Nat.beq u t with
    | true => rw [hb] at h; simp only [cond_true, Option.some.injEq] at h ⊢; rw [h]
    | false => rw [hb] at h; exact aF5 h
theorem FLe.ofmap {g : V → V} {L : List (Nat × V)} : ∀ {fr : List (Nat × V)}, (∀ t y, (t, y) ∈ fr → fO L t = some y) → FLe tM g (L.map fun p => (p.1, g p.2)) fr
  | [], _ => FLe.nil
  | (t, y) :: r, h => FLe.same (aF5 (h t y (by simp))) (FLe.ofmap fun u z hz => h u z (by simp [hz]))
def aB9 : List (Nat × V) → List (Nat × V) → Bool
  | _, [] => true
  | L, (t, _) :: r => !((r.map (·.1)).elem t) && aB9 L r
theorem aJo : ∀ {L : List (Nat × V)}, aB9 L L = true → ∀ t y, (t, y) ∈ L → fO L t = some y := by
  have key : ∀ {K L : List (Nat × V)}, aB9 K L = true → ∀ t y, (t, y) ∈ L → fO L t = some y := by
    intro K L
    induction L with
    | nil => intro _ t y h; cases h
    | cons p r ih =>
      obtain ⟨u, x⟩ := p
      intro h t y hm
      simp only [aB9, Bool.and_eq_true, Bool.not_eq_true'] at h
      simp only [fO]
      rcases List.mem_cons.1 hm with he | hm
      · cases he; simp
      · have : u ≠ t := fun he => by
          subst he
          have h1 : (r.map (·.1)).elem u = true := List.elem_eq_true_of_mem (List.mem_map.2 ⟨_, hm, rfl⟩)
          rw [h1] at h; exact absurd h.1 (by simp)
        have hb : Nat.beq u t = false := by
          cases hb : Nat.beq u t with
          | true => exact absurd (Nat.eq_of_beq_eq_true hb) this
          | false => rfl
        rw [hb]; exact ih h.2 t y hm
  exact fun {L} h => key h
theorem zW {N n : Nat} {fr fr' : List (Nat × V)} {h h' : Hp} (e : TypeId) (σ : List Nat)
    (hf : FLe (fun b => Nat.beq b h.length) (V.rn (sg σ (h ++ [some (Blk.mk e [])]).length)) fr fr' := by (repeat (first | exact FLe.nil | refine FLe.same rfl ?_ | refine FLe.le rfl lev ?_)))
    (h1 : HLv (fun b => Nat.beq b h.length) h h := by (repeat (first | exact HLv.nil | refine HLv.dead ?_ | refine HLv.live (V.les_refl _ _) aGX ?_)))
    (hh : HLe (sg σ (h ++ [some (Blk.mk e [])]).length) (h ++ [some (Blk.mk e [])]) σ h' := by (repeat (first | exact HLe.nil | refine HLe.dead ?_ | refine HLe.live rfl lev aGX ?_)))
    (hσ : σ.take N = List.range N := by rfl) (hlt : σ.all (fun b => Nat.blt b (h ++ [some (Blk.mk e [])]).length) = true := by rfl) (hnd : ndB (lvs σ h') = true := by rfl) (hk : aB9 fr' fr' = true := by rfl) : Ghost N (aG n fr) h (aG n fr') h' :=
  Ghost.trans (Ghost.virt e hf.mapg h1) (Ghost.rn σ hσ hlt (FLe.ofmap (aJo hk)) hh hnd)
section
variable {P : Program} {fn : Func} {n N : Nat} {fr : List (Nat × V)} {s : List V} {h h' : Hp} {r a b c x : V} {o p : Nat} {e : TypeId} {cs ds : List V} {t u w : Nat} {ty : TypeId}
inductive RsV (P : Program) (n : Nat) (fr : List (Nat × V)) (h : Hp) : ResultVar → V → Prop
  | t {t : Nat} {x : V} : a9 n fr (.tmp t) = some x → RsV P n fr h (.tmp t) x
  | c {t i o : Nat} {ty : TypeId} {v : V} : a9 n fr (.tmp t) = some (.ptr i o) → dX P ty h (.ptr i o) = some v → RsV P n fr h (.cell t ty) v
theorem RsV.eq {q : ResultVar} (hr : RsV P n fr h q x) : kC P (aG n fr) h q = some x := by
  cases hr with
  | t h1 => exact rvT h1
  | c h1 h2 => exact rvC h1 h2
theorem lv1 {d : TI} [T : TiC P ty d] (hb : h[o]? = some (some ⟨e, cs⟩)) (hc : (cs.drop p).head? = some x) (hd : b5 d.desc = false) : dX P ty h (.ptr o p) = some x := tH hb (vS T.h hd hc)
theorem lvN {fs : Array Field} {sz by_ : Nat} {zz : Value} [T : TiC P ty ⟨.struct fs, sz, by_, zz⟩] (hb : h[o]? = some (some ⟨e, cs⟩)) (hc : Tak cs p sz ds) : dX P ty h (.ptr o p) = some (.agg ds) := tH hb (jI T.h rfl hc.eq.2 hc.eq.1)
theorem lvB {α : Type} {E : α → V} {ml : List α} {N' sz by_ : Nat} {zz : Value} {w : TypeId} [T : TiC P ty ⟨.array N' w, sz, by_, zz⟩] (hb : h[o]? = some (some ⟨e, ml.map E⟩)) (hz : sz = N') (hl : ml.length = N') : dX P ty h (.ptr o 0) = some (.agg (ml.map E)) := uN T.h hz hb hl
theorem eR {q : ResultVar} (hr : fn.results = #[q]) (ha : RsV P n fr h q a) (hg : Ghost N (aG 1 [(0, a)]) h (aG 1 [(0, r)]) h') : zD P fn N r h' .ret (aG n fr) h := wB (aNl hr ha.eq) hg
theorem vV {q q' : ResultVar} (hr : fn.results = #[q, q']) (ha : RsV P n fr h q a) (hb : RsV P n fr h q' b) (hg : Ghost N (aG 1 [(0, .tup [a, b])]) h (aG 1 [(0, r)]) h') : zD P fn N r h' .ret (aG n fr) h := wB (bD hr ha.eq hb.eq) hg
theorem zr3 {q q' q'' : ResultVar} (hr : fn.results = #[q, q', q'']) (ha : RsV P n fr h q a) (hb : RsV P n fr h q' b) (hc : RsV P n fr h q'' c) (hg : Ghost N (aG 1 [(0, .tup [a, b, c])]) h (aG 1 [(0, r)]) h') : zD P fn N r h' .ret (aG n fr) h := wB (u4 hr ha.eq hb.eq hc.eq) hg
theorem zn0 (hr : fn.results = #[]) (hg : Ghost N (aG 1 [(0, .tup [])]) h (aG 1 [(0, r)]) h') : zD P fn N r h' .normal s h := aJs (aPp hr) hg
end
theorem bC {p : Prop} (h : p := by first | exact RsV.t rfl | (apply RsV.c; exact rfl; first | (apply lv1; exact rfl; exact rfl; exact rfl) | (apply lvB; exact rfl; exact rfl; first | exact rfl | exact aQ (by assumption) | exact bP (by assumption)) | (apply lvN; exact rfl; exact Tak.w rfl))) : p := h
end Go.Vm
