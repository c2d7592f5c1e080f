import Derived.Test.YtbjiaiobpbpjoaaVmStr
import Derived.ChangeKeysEq
set_option linter.unusedSimpArgs false
set_option linter.unusedVariables false
namespace Go.Vm
open Go

/-! ### Arrays -/
/-- A list as an array. -/
def arr {α : Type} (n : Nat) (l : List α) : Option (List α) := if l.length = n then some l else none
/-- The element of an array. -/
def aix {α : Type} (n : Nat) (l : List α) (i : Int) : Option α := if i < n then idx l i else none
/-- The array that a slice begins with. -/
def arp {α : Type} (n : Nat) (l : List α) : Option (List α) := if n ≤ l.length then some (l.take n) else none
/-- 'a + b'. -/
def cat (a b : ByteArray) : Option ByteArray := if a.size + b.size ≤ lim then some (a ++ b) else none
/-- 's[a:b]'. -/
def ssub (s : ByteArray) (a b : Int) : Option ByteArray := if 0 ≤ a ∧ a ≤ b ∧ b ≤ s.size then some (s.extract a.toNat b.toNat) else none
theorem arr_len {α : Type} {n : Nat} {l m : List α} (h : arr n l = some m) : l.length = n := by
  unfold arr at h; split at h
  · assumption
  · cases h
theorem arp_len {α : Type} {n : Nat} {l m : List α} (h : arp n l = some m) : m.length = n := by
  unfold arp at h; split at h
  · injection h with h; subst h; simp; omega
  · cases h
theorem aix_idx {α : Type} {n : Nat} {l : List α} {i : Int} {y : α} (h : aix n l i = some y) : idx l i = some y := by
  unfold aix at h; split at h
  · exact h
  · cases h
theorem aix_lt {α : Type} {n : Nat} {l : List α} {i : Int} {y : α} (h : aix n l i = some y) : i < n := by
  unfold aix at h; split at h
  · assumption
  · cases h

section
variable {P : Program} {h h' : Hp} {t e : TypeId} {ti : TI} {i off b N : Nat} {v : V} {α : Type} {E : α → V} {l m : List α} {y : α} {k : IntKind} {j : Int} {sz by_ : Nat} {z : Value} {ag : Bool}
theorem iaB (ht : tiOf P t = some ⟨.array N e, sz, by_, z⟩) (he : tiOf P e = some ti) (h1 : ti.size = 1) (hx : aix N l j = some y) : indexAtV P t (.ptr b 0) (.sc (.int k j)) = some (.ptr b j.toNat) := by
  obtain ⟨h2, h3, _⟩ := idx_some (aix_idx hx)
  simp [indexAtV, ht, asIdx, he, h1, h2, aix_lt hx]
/-- .. of an array that is laid. -/
theorem iaG {es : List V} (ht : tiOf P t = some ⟨.array N e, sz, by_, z⟩) (he : tiOf P e = some ti) (h1 : ti.size = 1) (hx : aix N l j = some y) : indexAtV P t (.eptr es 0 0) (.sc (.int k j)) = some (.eptr es 0 j.toNat) := by
  obtain ⟨h2, h3, _⟩ := idx_some (aix_idx hx)
  simp [indexAtV, ht, asIdx, he, h1, h2, aix_lt hx]
theorem ldG (ht : tiOf P t = some ti) (hd : isAggD ti.desc = false) (hx : idx l j = some y) : loadV P t h (.eptr [.agg (l.map E)] 0 j.toNat) = some (E y) := by
  obtain ⟨_, _, h3⟩ := idx_some hx
  simp [loadV, V.cells, partV, ht, hd, h3]
theorem ldA (ht : tiOf P t = some ⟨.array N e, sz, by_, z⟩) (hsz : sz = N) (hb : h[b]? = some (some ⟨i, l.map E⟩)) (hl : l.length = N) : loadV P t h (.ptr b 0) = some (.agg (l.map E)) := by
  subst hsz
  simp only [loadV, hb, partV, ht, isAggD, if_true, List.drop_zero, List.length_map]
  rw [if_pos (by omega), List.take_of_length_le (by simp; omega)]
theorem ldAE (ht : tiOf P t = some ⟨.array N e, sz, by_, z⟩) (hsz : sz = N) (hl : l.length = N) : loadV P t h (.eptr [.agg (l.map E)] 0 0) = some (.agg (l.map E)) := by
  subst hsz
  simp only [loadV, List.getElem?_cons_zero, V.cells, partV, ht, isAggD, if_true, List.drop_zero, List.length_map]
  rw [if_pos (by omega), List.take_of_length_le (by simp; omega)]
theorem stA (ht : tiOf P t = some ⟨.array N e, sz, by_, z⟩) (hsz : sz = N) (hb : h[b]? = some (some ⟨i, l.map E⟩)) (hE : ∀ x, (E x).one = true) (hl : l.length = N) (hm : m.length = N) (hh : h.set b (some ⟨i, m.map E⟩) = h') : storeV P t h (.ptr b 0) (.agg (m.map E)) = some h' := by
  subst hh hsz
  simp only [storeV, ht, hb]
  rw [if_pos ⟨by simp [V.flatOk, V.cells, hE], by simp [V.cells, hm], by simp [hl]⟩]
  congr 4
  unfold splice
  simp only [V.cells, List.take_zero, List.nil_append, Nat.zero_add, List.length_map]
  rw [List.drop_eq_nil_of_le (by simp; omega), List.append_nil]
theorem slA (ht : tiOf P t = some ⟨.array N e, sz, by_, z⟩) (he : tiOf P e = some ti) (h1 : ti.size = 1) (hag : isAggD ti.desc = ag) (hb : h[b]? = some (some ⟨i, l.map E⟩)) (hl : l.length = N) (hN : 0 < N ∧ N ≤ lim) : sliceV P t h (.ptr b 0) none none = some (.sl b 0 N 1 ag) := by
  subst hag
  simp only [sliceV, ht, he, asLo, asHi, hb]
  rw [if_pos ⟨by omega, hN.2, Int.le_refl _, by omega, Int.le_refl _, by simp [h1, hl]⟩]
  simp [h1]
theorem slT {s r : ByteArray} {lo hi : Option V} {a c : Int} (ht : tiOf P t = some ⟨.string, sz, by_, z⟩) (h1 : asLo lo = some a) (h2 : asHi hi s.size = some c) (hs : ssub s a c = some r) : sliceV P t h (.sc (.string s)) lo hi = some (.sc (.string r)) := by
  unfold ssub at hs
  split at hs
  · rename_i hc
    injection hs with hs
    subst hs
    simp only [sliceV, ht, h1, h2]
    rw [if_pos hc]
  · cases hs
theorem apR {nl : Option Bool} (ht : tiOf P t = some ⟨.array N e, sz, by_, z⟩) (hE : ∀ x, (E x).one = true) (hN : 0 < N) (hx : arp N l = some m) : arrPV P t (.row nl 1 (l.map E)) = some (.eptr [.agg (m.map E)] 0 0) := by
  unfold arp at hx
  split at hx
  · injection hx with hx
    subst hx
    simp only [arrPV, ht]
    rw [if_pos ⟨trivial, hN, by simpa using by assumption, by simp [hE]⟩, List.map_take]
  · cases hx
end
section
variable {P : Program} {O : Orc} {n : Nat} {fr : List (Nat × V)} {h h' : Hp} {ty : TypeId} {pos : String} {aft : Array Edge} {d : Option Tmp} {g : Option (Nat × Bool)} {x : Operand} {a v : V}
theorem d_sap {t : TypeId} (hx : evF n fr x = some a) (hv : arrPV P t a = some v) : absOp P O ⟨d, .sliceToArrayPointer t x, ty, pos, aft, g⟩ (mkF n fr) h = some (v, h) := by simp [absOp, evF_ev hx, hv]
end

theorem V.le_arr {α : Type} {E : α → V} {f : Nat → Nat} {vn : Nat → Bool} {l : List α} (hE : ∀ x, (E x).rn f = E x) : V.le vn (.agg (l.map E)) ((V.agg (l.map E)).rn f) := by
  have : (V.agg (l.map E)).rn f = V.agg (l.map E) := by simp only [V.rn, rns_map hE]
  rw [this]; exact V.le_refl _ _
theorem rfs_eI {k : IntKind} (l : List Int) : V.rfs (l.map (eI k)) = true := rfs_map (fun _ => rfl) l
theorem rfs_eB (l : List Bool) : V.rfs (l.map eB) = true := rfs_map (fun _ => rfl) l
/-- An array as an element. -/
abbrev eA {α : Type} (E : α → V) (l : List α) : V := .agg (l.map E)
theorem flatA {α : Type} {E : α → V} {l : List α} (h : ∀ x, (E x).one = true) : (V.agg (l.map E)).flatOk = true := by simp [V.flatOk, V.cells, h]
theorem ldRA {P : Program} {h : Hp} {t e : TypeId} {N sz by_ : Nat} {z : Value} {α : Type} {E : α → V} {l : List (List α)} {y : List α} {j : Int} (ht : tiOf P t = some ⟨.array N e, sz, by_, z⟩) (hsz : sz = N) (hx : idx l j = some y) (hl : y.length = N) : loadV P t h (.eptr (l.map (eA E)) j.toNat 0) = some (.agg (y.map E)) := by
  subst hsz
  obtain ⟨_, _, h3⟩ := idx_some hx
  simp only [loadV, List.getElem?_map, h3, Option.map_some, V.cells, partV, ht, isAggD, if_true, List.drop_zero, List.length_map]
  rw [if_pos (by omega), List.take_of_length_le (by simp; omega)]
/-! ### Comparing arrays of numbers; strings -/
section
variable {P : Program} (t : TypeId) (xo yo : Operand)
theorem bin_cat {a b r : ByteArray} (h : cat a b = some r) : binV P .add t xo yo (.sc (.string a)) (.sc (.string b)) = some (.sc (.string r)) := by
  unfold cat at h
  split at h
  · rename_i hl
    injection h with h
    subst h
    have hm : ¬ (((a.size + b.size : Nat) : Int) > IntKind.i64.max) := by
      unfold lim at hl
      have : IntKind.i64.max = 9223372036854775807 := by decide
      rw [this]; omega
    simp only [binV, toVal, cellVal, pureV]
    have : evalPure P (do eqGuard .add t xo yo (.string a) (.string b); binOp .add t (.string a) (.string b)) = some (.string (a ++ b)) := by
      show evalPure P (Op.stringOp .add a b) = _
      unfold Op.stringOp
      simp only
      rw [if_neg hm]
      rfl
    exact congrArg (Option.map ofValue) this
  · cases h
theorem evalPure_bind {α β : Type} (s : Sem α) (f : α → Sem β) {a : α} (h : evalPure P s = some a) : evalPure P (s >>= f) = evalPure P (f a) := by
  show evalPure P (Sem.bind s f) = _
  induction s with
  | pure x => simp only [evalPure, Option.some.injEq] at h; subst h; rfl
  | program k ih => exact ih P h
  | mark m k ih => exact ih h
  | _ => simp [evalPure] at h
theorem evalPure_underlying {t : TypeId} {ti : TI} (ht : tiOf P t = some ti) : evalPure P (underlying t) = some ti.desc := by
  have h1 := (tiOf_spec ht).1
  show evalPure P (match P.underlying t with | some d => pure d | none => stuck "no such type") = _
  rw [h1]; rfl
end
section
variable {P : Program}
theorem evalPure_sizeOf {t : TypeId} {ti : TI} (ht : tiOf P t = some ti) : evalPure P (sizeOf t) = some ti.size := by
  obtain ⟨_, i, h1, h2, _⟩ := tiOf_spec ht
  have : evalPure P (typeInfo t) = some i := by
    show evalPure P (match P.info? t with | some i => pure i | none => stuck "no such type") = _
    rw [h1]; rfl
  unfold sizeOf
  rw [evalPure_bind _ _ this, ← h2]; rfl
theorem evalPure_part {t : TypeId} {ti : TI} (ht : tiOf P t = some ti) (hd : isAggD ti.desc = false) {cs : Array Value} {off : Nat} {v : Value} (hv : cs[off]? = some v) : evalPure P (part t cs off) = some v := by
  unfold part
  have hu := evalPure_underlying ht
  have h1 : evalPure P (isAgg t) = some false := by
    unfold isAgg
    rw [evalPure_bind _ _ hu]
    cases hh : ti.desc <;> first | rfl | (rw [hh] at hd; simp [isAggD] at hd)
  rw [evalPure_bind _ _ h1]
  simp only [Bool.false_eq_true, if_false, hv]
  rfl
theorem equal_int {t : TypeId} {k k' : IntKind} {sz by_ : Nat} {z : Value} (ht : tiOf P t = some ⟨.int k', sz, by_, z⟩) (d : Nat) (a b : Int) : evalPure P (Op.equalIn (d + 1) t (.int k a) (.int k b)) = some (a == b) := by
  rw [Op.equalIn, evalPure_bind _ _ (evalPure_underlying ht)]
  simp only [if_true]
  rfl
theorem equal_arr {t e : TypeId} {k k' : IntKind} {N sz by_ sz' by' : Nat} {z z' : Value} (ht : tiOf P t = some ⟨.array N e, sz, by_, z⟩) (he : tiOf P e = some ⟨.int k', sz', by', z'⟩) (h1 : sz' = 1) {l m : List Int} (hl : l.length = N) (hm : m.length = N) (d : Nat) :
    evalPure P (Op.equalIn (d + 2) t (.agg (l.map (Value.int k)).toArray) (.agg (m.map (Value.int k)).toArray)) = some (l == m) := by
  subst h1
  rw [Op.equalIn, evalPure_bind _ _ (evalPure_underlying ht)]
  simp only
  rw [evalPure_bind _ _ (evalPure_sizeOf he)]
  simp only [Std.Legacy.Range.forIn_eq_forIn_range', Std.Legacy.Range.size, Nat.sub_zero, Nat.add_one_sub_one, Nat.div_one]
  have key : ∀ (c i : Nat), i + c = N → l.take i = m.take i → evalPure P (do
      let r ← forIn (List.range' i c 1) ((none, ()) : Option Bool × Unit) fun i r => do
        let a ← part e (l.map (Value.int k)).toArray (i * 1)
        let b ← part e (m.map (Value.int k)).toArray (i * 1)
        let q ← Op.equalIn (d + 1) e a b
        if (!q) = true then pure (ForInStep.done (some false, ())) else pure (ForInStep.yield (none, ()))
      match r.fst with
      | some a => pure a
      | none => pure true) = some (l == m) := by
    intro c
    induction c with
    | zero =>
      intro i hi hp
      have : l = m := by
        rw [List.take_of_length_le (by omega), List.take_of_length_le (by omega)] at hp
        exact hp
      subst this
      simp only [List.range'_zero, List.forIn_nil]
      show some true = _
      simp
    | succ c ih =>
      intro i hi hp
      have hil : i < l.length := by omega
      have him : i < m.length := by omega
      simp only [List.range'_succ, List.forIn_cons, bind_assoc]
      rw [evalPure_bind _ _ (evalPure_part he rfl (v := .int k l[i]) (by simp [hil])), evalPure_bind _ _ (evalPure_part he rfl (v := .int k m[i]) (by simp [him])), evalPure_bind _ _ (equal_int he d _ _)]
      by_cases hq : l[i] = m[i]
      · have := ih (i + 1) (by omega) (by rw [List.take_succ_eq_append_getElem hil, List.take_succ_eq_append_getElem him, hp, hq])
        simpa [hq] using this
      · have hne : l ≠ m := by rintro rfl; exact hq rfl
        have : (l == m) = false := by simpa using hne
        rw [this]
        have hq' : (l[i] == m[i]) = false := by simpa using hq
        rw [hq']
        rfl
  refine Eq.trans (congrArg (evalPure P) ?_) (key N 0 (by omega) (by simp))
  refine congr (congrArg bind ?_) (funext fun r => ?_)
  · rfl
  · obtain ⟨r, _⟩ := r
    cases r <;> rfl
variable (t : TypeId) (xo yo : Operand)
theorem toVal_ints (k : IntKind) (l : List Int) : toVal (.agg (l.map (eI k))) = some (.agg (l.map (Value.int k)).toArray) := by
  have : (l.map (eI k)).mapM cellVal = some (l.map (Value.int k)) := by
    induction l with
    | nil => rfl
    | cons x l ih => simp only [List.map_cons, List.mapM_cons, ih]; rfl
  simp only [toVal, this, Option.map_some]
theorem guard_arr {e : TypeId} {k' : IntKind} {N sz by_ sz' by' : Nat} {z z' : Value} {t : TypeId} (ht : tiOf P t = some ⟨.array N e, sz, by_, z⟩) (he : tiOf P e = some ⟨.int k', sz', by', z'⟩) (hd : 2 ≤ P.depth) {bo : BinOp} (hbo : bo = .eql ∨ bo = .neq) (a b : Array Value) : evalPure P (eqGuard bo t xo yo (.agg a) (.agg b)) = some () := by
  unfold eqGuard
  have hg : P.eqGuardType P.depth t = false := by
    obtain ⟨q, hq⟩ : ∃ q, P.depth = q + 2 := ⟨P.depth - 2, by omega⟩
    rw [hq]
    simp only [Program.eqGuardType, (tiOf_spec ht).1, (tiOf_spec he).1]
  rcases hbo with rfl | rfl <;>
  · show evalPure P (if (!P.eqGuardType P.depth t) = true then pure () else _) = some ()
    rw [hg]; rfl
theorem bin_eqlA {e : TypeId} {k k' : IntKind} {N sz by_ sz' by' : Nat} {z z' : Value} {t : TypeId} (ht : tiOf P t = some ⟨.array N e, sz, by_, z⟩) (he : tiOf P e = some ⟨.int k', sz', by', z'⟩) (h1 : sz' = 1) (hd : 2 ≤ P.depth) {l m : List Int} (hl : l.length = N) (hm : m.length = N) :
    binV P .eql t xo yo (.agg (l.map (eI k))) (.agg (m.map (eI k))) = some (.sc (.bool (l == m))) := by
  simp only [binV, toVal_ints, pureV]
  rw [evalPure_bind _ _ (guard_arr xo yo ht he hd (.inl rfl) _ _)]
  have : evalPure P (binOp .eql t (.agg (l.map (Value.int k)).toArray) (.agg (m.map (Value.int k)).toArray)) = some (.bool (l == m)) := evalPure_map _ _ (equal_arr ht he h1 hl hm 9998)
  rw [this]; rfl
theorem bin_neqA {e : TypeId} {k k' : IntKind} {N sz by_ sz' by' : Nat} {z z' : Value} {t : TypeId} (ht : tiOf P t = some ⟨.array N e, sz, by_, z⟩) (he : tiOf P e = some ⟨.int k', sz', by', z'⟩) (h1 : sz' = 1) (hd : 2 ≤ P.depth) {l m : List Int} (hl : l.length = N) (hm : m.length = N) :
    binV P .neq t xo yo (.agg (l.map (eI k))) (.agg (m.map (eI k))) = some (.sc (.bool (!(l == m)))) := by
  simp only [binV, toVal_ints, pureV]
  rw [evalPure_bind _ _ (guard_arr xo yo ht he hd (.inr rfl) _ _)]
  have : evalPure P (binOp .neq t (.agg (l.map (Value.int k)).toArray) (.agg (m.map (Value.int k)).toArray)) = some (.bool (!(l == m))) := evalPure_map _ (fun b => Value.bool !b) (equal_arr ht he h1 hl hm 9998)
  rw [this]; rfl
end
end Go.Vm
