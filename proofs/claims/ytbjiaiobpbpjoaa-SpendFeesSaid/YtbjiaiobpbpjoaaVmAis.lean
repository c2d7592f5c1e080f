import Derived.Test.YtbjiaiobpbpjoaaVmEq
set_option linter.unusedSimpArgs false
set_option linter.unusedVariables false
namespace Go.Vm
open Go
instance : Inhabited MT := ⟨⟨0, 0, ⟨.bool, 0, 0, default⟩, ⟨.bool, 0, 0, default⟩⟩⟩

/-! ### Comparing structs -/
section
variable {P : Program} {t : TypeId} {L : List TypeDesc} {ti : TI} {xo yo : Operand} {d : Nat}
theorem guard_flat (hg : P.eqGuardType P.depth t = false) {bo : BinOp} (hbo : bo = .eql ∨ bo = .neq) (a b : Array Value) : evalPure P (eqGuard bo t xo yo (.agg a) (.agg b)) = some () := by
  unfold eqGuard
  rcases hbo with rfl | rfl <;>
  · show evalPure P (if (!P.eqGuardType P.depth t) = true then pure () else _) = some ()
    rw [hg]; rfl
theorem equal_agg (ht : tiOf P t = some ti) (hag : isAggD ti.desc = true) (hf : flatTy P d t = some L) (hd : d ≤ 10000) {xs ys : List Value} (ox : okVs L xs = true) (oy : okVs L ys = true) : evalPure P (Op.equal t (.agg xs.toArray) (.agg ys.toArray)) = some (valsEq xs ys) := by
  have := ((equal_flat d ht hf).2 (10000 - d) ox).1 oy
  simp only [mkT, hag, if_true] at this
  rw [Nat.sub_add_cancel hd] at this
  exact this
theorem bin_eqlP (ht : tiOf P t = some ti) (hag : isAggD ti.desc = true) (hf : flatTy P d t = some L) (hd : d ≤ 10000) (hg : P.eqGuardType P.depth t = false) {cs ds : List V} {xs ys : List Value} {r : Bool} (hx : cs.mapM cellVal = some xs) (hy : ds.mapM cellVal = some ys) (ox : okVs L xs = true) (oy : okVs L ys = true) (hr : valsEq xs ys = r) :
    binV P .eql t xo yo (.agg cs) (.agg ds) = some (.sc (.bool r)) := by
  simp only [binV, toVal, hx, hy, Option.map_some, pureV]
  rw [evalPure_bind _ _ (guard_flat hg (.inl rfl) _ _)]
  have : evalPure P (binOp .eql t (.agg xs.toArray) (.agg ys.toArray)) = some (.bool (valsEq xs ys)) := evalPure_map _ _ (equal_agg ht hag hf hd ox oy)
  rw [this, hr]; rfl
theorem bin_neqP (ht : tiOf P t = some ti) (hag : isAggD ti.desc = true) (hf : flatTy P d t = some L) (hd : d ≤ 10000) (hg : P.eqGuardType P.depth t = false) {cs ds : List V} {xs ys : List Value} {r : Bool} (hx : cs.mapM cellVal = some xs) (hy : ds.mapM cellVal = some ys) (ox : okVs L xs = true) (oy : okVs L ys = true) (hr : valsEq xs ys = r) :
    binV P .neq t xo yo (.agg cs) (.agg ds) = some (.sc (.bool (!r))) := by
  simp only [binV, toVal, hx, hy, Option.map_some, pureV]
  rw [evalPure_bind _ _ (guard_flat hg (.inr rfl) _ _)]
  have : evalPure P (binOp .neq t (.agg xs.toArray) (.agg ys.toArray)) = some (.bool (!(valsEq xs ys))) := evalPure_map _ (fun b => Value.bool !b) (equal_agg ht hag hf hd ox oy)
  rw [this, hr]; rfl
end

/-! ### Keys of maps -/
structure KeyOk (P : Program) (kt : TypeId) {α : Type} (VK : α → Value) (eq : α → α → Bool) : Prop where
  equal : ∀ a b, evalPure P (Op.equal kt (VK a) (VK b)) = some (eq a b)
  check : ∀ e a, evalPure P (Instr.checkKey e 10000 kt (VK a)) = some ()
  stays : ∀ a b, eq a b = true → Instr.sameBits 10000 (VK b) (VK a) = true
theorem ba_eq {a b : ByteArray} (h : (a == b) = true) : a = b := by
  obtain ⟨a⟩ := a
  obtain ⟨b⟩ := b
  have h' : (a == b) = true := h
  rw [eq_of_beq h']
theorem bits_of : ∀ (n : Nat) {L : List TypeDesc} {xs ys : List Value}, okVs L xs = true → okVs L ys = true → valsEq xs ys = true → (ys.zip xs).all (fun (x, y) => Instr.sameBits n x y) = true
  | n, [], [], [], _, _, _ => rfl
  | n, d :: L, x :: xs, y :: ys, hx, hy, h => by
    simp only [valsEq, Bool.and_eq_true] at h
    have key : okVs L xs = true ∧ okVs L ys = true ∧ Instr.sameBits n y x = true := by
      cases d <;> cases x <;> simp only [okVs, Bool.false_eq_true, Bool.and_eq_true, decide_eq_true_eq] at hx <;> cases y <;> simp only [okVs, Bool.false_eq_true, Bool.and_eq_true, decide_eq_true_eq] at hy <;> simp only [valEq, beq_iff_eq] at h
      · exact ⟨hx, hy, by cases n <;> simp [Instr.sameBits, h.1]⟩
      · refine ⟨hx.2, hy.2, ?_⟩
        have h1 := hx.1.symm.trans hy.1
        cases n <;> simp [Instr.sameBits, h.1, h1]
      · refine ⟨hx, hy, ?_⟩
        have h1 := ba_eq h.1
        subst h1
        cases n <;> exact h.1
    simp only [List.zip_cons_cons, List.all_cons, key.2.2, Bool.true_and]
    exact bits_of n key.1 key.2.1 h.2
  | n, [], _ :: _, _, hx, _, _ => by simp [okVs] at hx
  | n, [], [], _ :: _, _, hy, _ => by simp [okVs] at hy
  | n, d :: L, [], _, hx, _, _ => by cases d <;> simp [okVs] at hx
  | n, d :: L, _ :: _, [], _, hy, _ => by cases d <;> simp [okVs] at hy
theorem keyOk_flat {P : Program} {kt : TypeId} {L : List TypeDesc} {ti : TI} {d : Nat} {α : Type} {xs : α → List Value} {eq : α → α → Bool} (ht : tiOf P kt = some ti) (hag : isAggD ti.desc = true) (hf : flatTy P d kt = some L) (hd : d ≤ 10000) (ok : ∀ a, okVs L (xs a) = true) (heq : ∀ a b, valsEq (xs a) (xs b) = eq a b) :
    KeyOk P kt (fun a => .agg (xs a).toArray) eq := by
  refine ⟨fun a b => by rw [← heq]; exact equal_agg ht hag hf hd (ok a) (ok b), fun e a => ?_, fun a b h => ?_⟩
  · have := ((equal_flat d ht hf).2 (10000 - d) (ok a)).2 e
    simp only [mkT, hag, if_true] at this
    rw [Nat.sub_add_cancel hd] at this
    exact this
  · have h1 := bits_of 9999 (ok a) (ok b) (by rw [heq]; exact h)
    have hl : (xs b).length = (xs a).length := by rw [okVs_len (ok a), okVs_len (ok b)]
    show Instr.sameBits (9999 + 1) _ _ = true
    simp only [Instr.sameBits, List.size_toArray, hl, beq_self_eq_true, Bool.true_and]
    exact h1
/-! ### Maps as lists of pairs -/
def mfind {α β : Type} (eq : α → α → Bool) (l : List (α × β)) (k : α) : Option Nat := l.findIdx? fun e => eq k e.1
def mget {α β : Type} (eq : α → α → Bool) (l : List (α × β)) (k : α) (z : β) : β := match mfind eq l k with
  | some i => ((l[i]?).map (·.2)).getD z
  | none => z
def mhas {α β : Type} (eq : α → α → Bool) (l : List (α × β)) (k : α) : Bool := (mfind eq l k).isSome
def mput {α β : Type} (eq : α → α → Bool) (l : List (α × β)) (k : α) (v : β) : List (α × β) := match mfind eq l k with
  | some i => l.set i (k, v)
  | none => l ++ [(k, v)]
section
variable {P : Program} {kt : TypeId} {α β : Type} {VK : α → Value} {eq : α → α → Bool} {CK : α → List V} {E : β → V} {C : α × β → List V} {K : Nat} {l : List (α × β)} {k : α} {v : β}
theorem ent_flat (hC : ∀ e, C e = CK e.1 ++ [E e.2]) (hl : ∀ a, (CK a).length = K) (h0 : 0 < K) : ∀ l : List (α × β), entV K 0 l.length (l.flatMap C) = l.map fun e => (V.agg (CK e.1), E e.2)
  | [] => rfl
  | e :: l => by
    have w1 : width K = K := by unfold width; rw [if_neg (by omega)]
    have w0 : width 0 = 1 := rfl
    have e1 : (e :: l).flatMap C = CK e.1 ++ (E e.2 :: l.flatMap C) := by rw [List.flatMap_cons, hC]; simp
    simp only [List.length_cons, entV, e1, w1, w0]
    have d1 : (CK e.1 ++ E e.2 :: l.flatMap C).drop K = E e.2 :: l.flatMap C := List.drop_left' (hl _)
    have d2 : (CK e.1 ++ E e.2 :: l.flatMap C).drop (K + 1) = l.flatMap C := by rw [← List.drop_drop, d1]; rfl
    rw [List.take_left' (hl _), d1, d2, ent_flat hC hl h0 l, List.map_cons]
    have hK : K ≠ 0 := by omega
    simp [mkSh, hK]
theorem flat_pairs (hC : ∀ e, C e = CK e.1 ++ [E e.2]) (hE : ∀ b, (E b).one = true) (l : List (α × β)) : flatE (l.map fun e => (V.agg (CK e.1), E e.2)) = l.flatMap C := by
  have hc : ∀ b, (E b).cells = [E b] := fun b => by have := hE b; generalize E b = y at this ⊢; cases y <;> first | rfl | simp [V.one] at this
  have ha : ∀ cs : List V, (V.agg cs).cells = cs := fun _ => rfl
  simp only [flatE, List.flatMap_map, ha, hc]
  exact congrArg (fun f => List.flatMap f l) (funext fun e => (hC e).symm)
theorem flat_lenP (hC : ∀ e, C e = CK e.1 ++ [E e.2]) (hl : ∀ a, (CK a).length = K) : ∀ l : List (α × β), (l.flatMap C).length = l.length * (K + 1)
  | [] => by simp
  | e :: l => by rw [List.flatMap_cons, List.length_append, flat_lenP hC hl l, hC]; simp [hl, Nat.add_mul]; omega
theorem keys_flat (hv : ∀ a, toVal (.agg (CK a)) = some (VK a)) : ∀ l : List (α × β), (l.map fun e => (V.agg (CK e.1), E e.2)).mapM (fun e => toVal e.1) = some (l.map fun e => VK e.1)
  | [] => rfl
  | e :: l => by simp only [List.map_cons, List.mapM_cons, hv, keys_flat hv l]; rfl
theorem find_flat (hk : KeyOk P kt VK eq) (k : α) : ∀ l : List (α × β), findIx P kt (VK k) (l.map fun e => VK e.1) = some (mfind eq l k)
  | [] => rfl
  | e :: l => by
    simp only [List.map_cons, findIx, hk.equal, mfind, List.findIdx?_cons]
    cases eq k e.1 with
    | true => rfl
    | false =>
      have := find_flat hk k l
      simp only [mfind] at this
      simp [this]
variable {t : TypeId} {m : MT} {h h' : Hp} {b : Nat}
theorem mapAt_flat (hC : ∀ e, C e = CK e.1 ++ [E e.2]) (hl : ∀ a, (CK a).length = K) (h0 : 0 < K) (hm : mapTy P t = some m) (hK : shN m.dk = K) (hL : shN m.de = 0) (hb : h[b]? = some (some ⟨m.code, l.flatMap C⟩)) :
    mapAt P t h (.mp b) = some ⟨m, b, ⟨m.code, l.flatMap C⟩, l.map fun e => (V.agg (CK e.1), E e.2)⟩ := by
  have w1 : width K = K := by unfold width; rw [if_neg (by omega)]
  have w0 : width 0 = 1 := rfl
  simp only [mapAt, hm, hb, if_true, hK, hL, w1, w0, flat_lenP hC hl]
  rw [Nat.mul_div_cancel _ (by omega), ent_flat hC hl h0]
theorem mapFind_flat (hv : ∀ a, toVal (.agg (CK a)) = some (VK a)) (hk : KeyOk P kt VK eq) : mapFind P kt (l.map fun e => (V.agg (CK e.1), E e.2)) (.agg (CK k)) = some (VK k, l.map (fun e => VK e.1), mfind eq l k) := by
  simp only [mapFind, hv, keys_flat hv, hk.check, find_flat hk]
theorem lkM {z : β} (hC : ∀ e, C e = CK e.1 ++ [E e.2]) (hl : ∀ a, (CK a).length = K) (h0 : 0 < K) (hv : ∀ a, toVal (.agg (CK a)) = some (VK a)) (hm : mapTy P t = some m) (hk : KeyOk P m.kt VK eq) (hK : shN m.dk = K) (hL : shN m.de = 0) (hz : ofValue m.de.zero = E z) (hb : h[b]? = some (some ⟨m.code, l.flatMap C⟩)) :
    lookupV P t h (.mp b) (.agg (CK k)) false = some (E (mget eq l k z)) := by
  simp only [lookupV, mapAt_flat hC hl h0 hm hK hL hb, mapFind_flat hv hk, mget]
  cases hf : mfind eq l k with
  | none => simp [hz]
  | some i =>
    have hi : i < l.length := (List.findIdx?_eq_some_iff_getElem.1 hf).1
    simp [hi]
theorem lkMo {z : β} (hC : ∀ e, C e = CK e.1 ++ [E e.2]) (hl : ∀ a, (CK a).length = K) (h0 : 0 < K) (hv : ∀ a, toVal (.agg (CK a)) = some (VK a)) (hm : mapTy P t = some m) (hk : KeyOk P m.kt VK eq) (hK : shN m.dk = K) (hL : shN m.de = 0) (hz : ofValue m.de.zero = E z) (hb : h[b]? = some (some ⟨m.code, l.flatMap C⟩)) :
    lookupV P t h (.mp b) (.agg (CK k)) true = some (.tup [E (mget eq l k z), eB (mhas eq l k)]) := by
  simp only [lookupV, mapAt_flat hC hl h0 hm hK hL hb, mapFind_flat hv hk, mget, mhas]
  cases hf : mfind eq l k with
  | none => simp [hz]
  | some i =>
    have hi : i < l.length := (List.findIdx?_eq_some_iff_getElem.1 hf).1
    simp [hi]
theorem upM (hC : ∀ e, C e = CK e.1 ++ [E e.2]) (hl : ∀ a, (CK a).length = K) (h0 : 0 < K) (h1 : ∀ a, (CK a).all V.one = true) (hE : ∀ b, (E b).one = true) (hv : ∀ a, toVal (.agg (CK a)) = some (VK a)) (hm : mapTy P t = some m) (hk : KeyOk P m.kt VK eq) (hK : shN m.dk = K) (hL : shN m.de = 0) (hb : h[b]? = some (some ⟨m.code, l.flatMap C⟩)) (hh : h.set b (some ⟨m.code, (mput eq l k v).flatMap C⟩) = h') :
    updV P t h (.mp b) (.agg (CK k)) (E v) = some h' := by
  subst hh
  have hKn : K ≠ 0 := by omega
  have s1 : isSh K (.agg (CK k)) = true := by simp [isSh, V.flatOk, V.cells, h1, hKn, hl]
  have hc : ∀ b, (E b).cells = [E b] := fun b => by have := hE b; generalize E b = y at this ⊢; cases y <;> first | rfl | simp [V.one] at this
  have s2 : isSh 0 (E v) = true := by simp [isSh, V.flatOk, hc, hE]
  simp only [updV, mapAt_flat hC hl h0 hm hK hL hb, hK, hL, s1, s2, Bool.and_self, if_true, mapFind_flat hv hk, mput]
  cases hf : mfind eq l k with
  | none =>
    have ha : ∀ cs : List V, (V.agg cs).cells = cs := fun _ => rfl
    simp only [List.flatMap_append, List.flatMap_cons, List.flatMap_nil, hC, ha, hc, List.append_nil]
  | some i =>
    obtain ⟨hi, hp, _⟩ := List.findIdx?_eq_some_iff_getElem.1 hf
    have hst : staysV (l.map fun e => VK e.1) i (VK k) = true := by
      simp only [staysV, List.getElem?_map, List.getElem?_eq_getElem hi, Option.map_some, Option.any_some]
      exact hk.stays _ _ hp
    simp only [hst, if_true]
    rw [← flat_pairs hC hE (l.set i (k, v)), List.map_set]
theorem lkM' {z : β} {e : Nat} (he : m.code = e) (hC : ∀ e, C e = CK e.1 ++ [E e.2]) (hl : ∀ a, (CK a).length = K) (h0 : 0 < K) (hv : ∀ a, toVal (.agg (CK a)) = some (VK a)) (hm : mapTy P t = some m) (hk : KeyOk P m.kt VK eq) (hK : shN m.dk = K) (hL : shN m.de = 0) (hz : ofValue m.de.zero = E z) (hb : h[b]? = some (some ⟨e, l.flatMap C⟩)) :
    lookupV P t h (.mp b) (.agg (CK k)) false = some (E (mget eq l k z)) := by
  subst he; exact lkM hC hl h0 hv hm hk hK hL hz hb
theorem lkMo' {z : β} {e : Nat} (he : m.code = e) (hC : ∀ e, C e = CK e.1 ++ [E e.2]) (hl : ∀ a, (CK a).length = K) (h0 : 0 < K) (hv : ∀ a, toVal (.agg (CK a)) = some (VK a)) (hm : mapTy P t = some m) (hk : KeyOk P m.kt VK eq) (hK : shN m.dk = K) (hL : shN m.de = 0) (hz : ofValue m.de.zero = E z) (hb : h[b]? = some (some ⟨e, l.flatMap C⟩)) :
    lookupV P t h (.mp b) (.agg (CK k)) true = some (.tup [E (mget eq l k z), eB (mhas eq l k)]) := by
  subst he; exact lkMo hC hl h0 hv hm hk hK hL hz hb
theorem upM' {e : Nat} (he : m.code = e) (hC : ∀ e, C e = CK e.1 ++ [E e.2]) (hl : ∀ a, (CK a).length = K) (h0 : 0 < K) (h1 : ∀ a, (CK a).all V.one = true) (hE : ∀ b, (E b).one = true) (hv : ∀ a, toVal (.agg (CK a)) = some (VK a)) (hm : mapTy P t = some m) (hk : KeyOk P m.kt VK eq) (hK : shN m.dk = K) (hL : shN m.de = 0) (hb : h[b]? = some (some ⟨e, l.flatMap C⟩)) (hh : h.set b (some ⟨e, (mput eq l k v).flatMap C⟩) = h') :
    updV P t h (.mp b) (.agg (CK k)) (E v) = some h' := by
  subst he; exact upM hC hl h0 h1 hE hv hm hk hK hL hb hh
/-- The values of cells. -/
def vals (cs : List V) : List Value := (cs.mapM cellVal).getD []
end
section
variable {P : Program} {O : Orc} {n : Nat} {fr : List (Nat × V)} {h h' : Hp} {ty : TypeId} {pos : String} {aft : Array Edge} {v : V} {d : Option Tmp} {g : Option (Nat × Bool)} {x y z : Operand} {a b c : V} {t : TypeId}
theorem d_mkmap {m : MT} {i : Nat} {e : Nat} (hm : mapTy P t = some m) (he : m.code = e) (hl : h.length = i) (hh : h ++ [some ⟨e, []⟩] = h') : absOp P O ⟨d, .makeMap t none, ty, pos, aft, g⟩ (mkF n fr) h = some (.mp i, h') := by
  subst hl hh he
  simp [absOp, makeMapV, hm]
theorem d_lk {ok : Bool} (hx : evF n fr x = some a) (hy : evF n fr y = some b) (hv : lookupV P t h a b ok = some v) : absOp P O ⟨d, .lookup t x y ok, ty, pos, aft, g⟩ (mkF n fr) h = some (v, h) := by simp [absOp, evF_ev hx, evF_ev hy, hv]
theorem d_upd (hx : evF n fr x = some a) (hy : evF n fr y = some b) (hz : evF n fr z = some c) (hv : updV P t h a b c = some h') : absOp P O ⟨d, .mapUpdate t x y z, ty, pos, aft, g⟩ (mkF n fr) h = some (.sc undef, h') := by simp [absOp, evF_ev hx, evF_ev hy, evF_ev hz, hv]
end
/-! ### Arrays in structs: the cells of an array of a length -/
theorem range_getD {E : Int → V} {n : Nat} {l : List Int} (h : l.length = n) : (List.range n).map (fun i => E (l.getD i 0)) = l.map E := by
  apply List.ext_getElem?
  intro i
  simp only [List.getElem?_map, List.getElem?_range']
  by_cases hi : i < n
  · rw [List.getElem?_range hi, List.getElem?_eq_getElem (by omega)]
    simp [List.getD_eq_getElem?_getD, List.getElem?_eq_getElem (show i < l.length by omega)]
  · rw [List.getElem?_eq_none (by simpa using hi), List.getElem?_eq_none (by omega)]; rfl
theorem range_all {n : Nat} {a b : List Int} (ha : a.length = n) (hb : b.length = n) : (List.range n).all (fun i => a.getD i 0 == b.getD i 0) = (a == b) := by
  rw [Bool.eq_iff_iff]
  simp only [List.all_eq_true, List.mem_range, beq_iff_eq]
  constructor
  · intro h
    apply List.ext_getElem (by omega)
    intro i h1 h2
    have := h i (by omega)
    simpa [List.getD_eq_getElem?_getD, List.getElem?_eq_getElem h1, List.getElem?_eq_getElem h2] using this
  · rintro rfl i _; rfl
theorem bldE {P : Program} {t : TypeId} {ps ps' : List (Nat × V)} {v : V} (h : ps = ps') (hb : buildV P t ps' = some v) : buildV P t ps = some v := by rw [h]; exact hb
def ar4 (E : Int → V) (l : List Int) (r : List V) : List V := E (l.getD 0 0) :: E (l.getD 1 0) :: E (l.getD 2 0) :: E (l.getD 3 0) :: r
theorem ar4_map {E : Int → V} {l : List Int} (h : l.length = 4) (r : List V) : ar4 E l r = l.map E ++ r := by
  rw [← range_getD h]; rfl
theorem ar4_nil {E : Int → V} {l : List Int} (h : l.length = 4) : ar4 E l [] = l.map E := by rw [ar4_map h]; simp
theorem to4 {P : Program} {E : Int → V} {l : List Int} {t : TypeId} {cs : List V} (h : l.length = 4) (hp : partV P t cs = some (.agg (ar4 E l []))) : partV P t cs = some (.agg (l.map E)) := by rw [hp, ar4_nil h]
theorem stE4 {P : Program} {E : Int → V} {l : List Int} {t : TypeId} {h h' : Hp} {a : V} (q : l.length = 4) (hp : storeV P t h a (.agg (ar4 E l [])) = some h') : storeV P t h a (.agg (l.map E)) = some h' := by rw [← ar4_nil q]; exact hp
theorem rns_ar4 {f : Nat → Nat} {k : IntKind} {l : List Int} {r : List V} : V.rns f (ar4 (eI k) l r) = ar4 (eI k) l (V.rns f r) := rfl
theorem les_ar4 {vn : Nat → Bool} {E : Int → V} {l : List Int} {r r' : List V} (hr : V.les vn r r') : V.les vn (ar4 E l r) (ar4 E l r') := by
  unfold ar4
  repeat (first | exact hr | refine V.les_cons (V.le_refl _ _) ?_)
theorem cvs_ar4 {h h' : Hp} {E : Int → V} {l : List Int} {r r' : List V} (hE : ∀ x, Conv h h' (E x) (E x)) (hr : Convs h h' r r') : Convs h h' (ar4 E l r) (ar4 E l r') := by
  unfold ar4
  repeat (first | exact hr | refine Convs.cons (hE _) ?_)
def aeq4 (a b : List Int) (r : Bool) : Bool := ((a.getD 0 0 == b.getD 0 0) && ((a.getD 1 0 == b.getD 1 0) && ((a.getD 2 0 == b.getD 2 0) && ((a.getD 3 0 == b.getD 3 0) && r))))
theorem aeq4_iff {a b : List Int} (ha : a.length = 4) (hb : b.length = 4) (r : Bool) : aeq4 a b r = ((a == b) && r) := by
  have e : aeq4 a b r = ((List.range 4).all (fun i => a.getD i 0 == b.getD i 0) && r) := by
    simp only [aeq4, show List.range 4 = [0, 1, 2, 3] from rfl, List.all_cons, List.all_nil, Bool.and_assoc, Bool.true_and, Bool.and_true]
  rw [e, range_all ha hb]
def ar8 (E : Int → V) (l : List Int) (r : List V) : List V := E (l.getD 0 0) :: E (l.getD 1 0) :: E (l.getD 2 0) :: E (l.getD 3 0) :: E (l.getD 4 0) :: E (l.getD 5 0) :: E (l.getD 6 0) :: E (l.getD 7 0) :: r
theorem ar8_map {E : Int → V} {l : List Int} (h : l.length = 8) (r : List V) : ar8 E l r = l.map E ++ r := by
  rw [← range_getD h]; rfl
theorem ar8_nil {E : Int → V} {l : List Int} (h : l.length = 8) : ar8 E l [] = l.map E := by rw [ar8_map h]; simp
theorem to8 {P : Program} {E : Int → V} {l : List Int} {t : TypeId} {cs : List V} (h : l.length = 8) (hp : partV P t cs = some (.agg (ar8 E l []))) : partV P t cs = some (.agg (l.map E)) := by rw [hp, ar8_nil h]
theorem stE8 {P : Program} {E : Int → V} {l : List Int} {t : TypeId} {h h' : Hp} {a : V} (q : l.length = 8) (hp : storeV P t h a (.agg (ar8 E l [])) = some h') : storeV P t h a (.agg (l.map E)) = some h' := by rw [← ar8_nil q]; exact hp
theorem rns_ar8 {f : Nat → Nat} {k : IntKind} {l : List Int} {r : List V} : V.rns f (ar8 (eI k) l r) = ar8 (eI k) l (V.rns f r) := rfl
theorem les_ar8 {vn : Nat → Bool} {E : Int → V} {l : List Int} {r r' : List V} (hr : V.les vn r r') : V.les vn (ar8 E l r) (ar8 E l r') := by
  unfold ar8
  repeat (first | exact hr | refine V.les_cons (V.le_refl _ _) ?_)
theorem cvs_ar8 {h h' : Hp} {E : Int → V} {l : List Int} {r r' : List V} (hE : ∀ x, Conv h h' (E x) (E x)) (hr : Convs h h' r r') : Convs h h' (ar8 E l r) (ar8 E l r') := by
  unfold ar8
  repeat (first | exact hr | refine Convs.cons (hE _) ?_)
def aeq8 (a b : List Int) (r : Bool) : Bool := ((a.getD 0 0 == b.getD 0 0) && ((a.getD 1 0 == b.getD 1 0) && ((a.getD 2 0 == b.getD 2 0) && ((a.getD 3 0 == b.getD 3 0) && ((a.getD 4 0 == b.getD 4 0) && ((a.getD 5 0 == b.getD 5 0) && ((a.getD 6 0 == b.getD 6 0) && ((a.getD 7 0 == b.getD 7 0) && r))))))))
theorem aeq8_iff {a b : List Int} (ha : a.length = 8) (hb : b.length = 8) (r : Bool) : aeq8 a b r = ((a == b) && r) := by
  have e : aeq8 a b r = ((List.range 8).all (fun i => a.getD i 0 == b.getD i 0) && r) := by
    simp only [aeq8, show List.range 8 = [0, 1, 2, 3, 4, 5, 6, 7] from rfl, List.all_cons, List.all_nil, Bool.and_assoc, Bool.true_and, Bool.and_true]
  rw [e, range_all ha hb]
def ar20 (E : Int → V) (l : List Int) (r : List V) : List V := E (l.getD 0 0) :: E (l.getD 1 0) :: E (l.getD 2 0) :: E (l.getD 3 0) :: E (l.getD 4 0) :: E (l.getD 5 0) :: E (l.getD 6 0) :: E (l.getD 7 0) :: E (l.getD 8 0) :: E (l.getD 9 0) :: E (l.getD 10 0) :: E (l.getD 11 0) :: E (l.getD 12 0) :: E (l.getD 13 0) :: E (l.getD 14 0) :: E (l.getD 15 0) :: E (l.getD 16 0) :: E (l.getD 17 0) :: E (l.getD 18 0) :: E (l.getD 19 0) :: r
theorem ar20_map {E : Int → V} {l : List Int} (h : l.length = 20) (r : List V) : ar20 E l r = l.map E ++ r := by
  rw [← range_getD h]; rfl
theorem ar20_nil {E : Int → V} {l : List Int} (h : l.length = 20) : ar20 E l [] = l.map E := by rw [ar20_map h]; simp
theorem to20 {P : Program} {E : Int → V} {l : List Int} {t : TypeId} {cs : List V} (h : l.length = 20) (hp : partV P t cs = some (.agg (ar20 E l []))) : partV P t cs = some (.agg (l.map E)) := by rw [hp, ar20_nil h]
theorem stE20 {P : Program} {E : Int → V} {l : List Int} {t : TypeId} {h h' : Hp} {a : V} (q : l.length = 20) (hp : storeV P t h a (.agg (ar20 E l [])) = some h') : storeV P t h a (.agg (l.map E)) = some h' := by rw [← ar20_nil q]; exact hp
theorem rns_ar20 {f : Nat → Nat} {k : IntKind} {l : List Int} {r : List V} : V.rns f (ar20 (eI k) l r) = ar20 (eI k) l (V.rns f r) := rfl
theorem les_ar20 {vn : Nat → Bool} {E : Int → V} {l : List Int} {r r' : List V} (hr : V.les vn r r') : V.les vn (ar20 E l r) (ar20 E l r') := by
  unfold ar20
  repeat (first | exact hr | refine V.les_cons (V.le_refl _ _) ?_)
theorem cvs_ar20 {h h' : Hp} {E : Int → V} {l : List Int} {r r' : List V} (hE : ∀ x, Conv h h' (E x) (E x)) (hr : Convs h h' r r') : Convs h h' (ar20 E l r) (ar20 E l r') := by
  unfold ar20
  repeat (first | exact hr | refine Convs.cons (hE _) ?_)
def aeq20 (a b : List Int) (r : Bool) : Bool := ((a.getD 0 0 == b.getD 0 0) && ((a.getD 1 0 == b.getD 1 0) && ((a.getD 2 0 == b.getD 2 0) && ((a.getD 3 0 == b.getD 3 0) && ((a.getD 4 0 == b.getD 4 0) && ((a.getD 5 0 == b.getD 5 0) && ((a.getD 6 0 == b.getD 6 0) && ((a.getD 7 0 == b.getD 7 0) && ((a.getD 8 0 == b.getD 8 0) && ((a.getD 9 0 == b.getD 9 0) && ((a.getD 10 0 == b.getD 10 0) && ((a.getD 11 0 == b.getD 11 0) && ((a.getD 12 0 == b.getD 12 0) && ((a.getD 13 0 == b.getD 13 0) && ((a.getD 14 0 == b.getD 14 0) && ((a.getD 15 0 == b.getD 15 0) && ((a.getD 16 0 == b.getD 16 0) && ((a.getD 17 0 == b.getD 17 0) && ((a.getD 18 0 == b.getD 18 0) && ((a.getD 19 0 == b.getD 19 0) && r))))))))))))))))))))
theorem aeq20_iff {a b : List Int} (ha : a.length = 20) (hb : b.length = 20) (r : Bool) : aeq20 a b r = ((a == b) && r) := by
  have e : aeq20 a b r = ((List.range 20).all (fun i => a.getD i 0 == b.getD i 0) && r) := by
    simp only [aeq20, show List.range 20 = [0, 1, 2, 3, 4, 5, 6, 7, 8, 9, 10, 11, 12, 13, 14, 15, 16, 17, 18, 19] from rfl, List.all_cons, List.all_nil, Bool.and_assoc, Bool.true_and, Bool.and_true]
  rw [e, range_all ha hb]
def ar32 (E : Int → V) (l : List Int) (r : List V) : List V := E (l.getD 0 0) :: E (l.getD 1 0) :: E (l.getD 2 0) :: E (l.getD 3 0) :: E (l.getD 4 0) :: E (l.getD 5 0) :: E (l.getD 6 0) :: E (l.getD 7 0) :: E (l.getD 8 0) :: E (l.getD 9 0) :: E (l.getD 10 0) :: E (l.getD 11 0) :: E (l.getD 12 0) :: E (l.getD 13 0) :: E (l.getD 14 0) :: E (l.getD 15 0) :: E (l.getD 16 0) :: E (l.getD 17 0) :: E (l.getD 18 0) :: E (l.getD 19 0) :: E (l.getD 20 0) :: E (l.getD 21 0) :: E (l.getD 22 0) :: E (l.getD 23 0) :: E (l.getD 24 0) :: E (l.getD 25 0) :: E (l.getD 26 0) :: E (l.getD 27 0) :: E (l.getD 28 0) :: E (l.getD 29 0) :: E (l.getD 30 0) :: E (l.getD 31 0) :: r
theorem ar32_map {E : Int → V} {l : List Int} (h : l.length = 32) (r : List V) : ar32 E l r = l.map E ++ r := by
  rw [← range_getD h]; rfl
theorem ar32_nil {E : Int → V} {l : List Int} (h : l.length = 32) : ar32 E l [] = l.map E := by rw [ar32_map h]; simp
theorem to32 {P : Program} {E : Int → V} {l : List Int} {t : TypeId} {cs : List V} (h : l.length = 32) (hp : partV P t cs = some (.agg (ar32 E l []))) : partV P t cs = some (.agg (l.map E)) := by rw [hp, ar32_nil h]
theorem stE32 {P : Program} {E : Int → V} {l : List Int} {t : TypeId} {h h' : Hp} {a : V} (q : l.length = 32) (hp : storeV P t h a (.agg (ar32 E l [])) = some h') : storeV P t h a (.agg (l.map E)) = some h' := by rw [← ar32_nil q]; exact hp
theorem rns_ar32 {f : Nat → Nat} {k : IntKind} {l : List Int} {r : List V} : V.rns f (ar32 (eI k) l r) = ar32 (eI k) l (V.rns f r) := rfl
theorem les_ar32 {vn : Nat → Bool} {E : Int → V} {l : List Int} {r r' : List V} (hr : V.les vn r r') : V.les vn (ar32 E l r) (ar32 E l r') := by
  unfold ar32
  repeat (first | exact hr | refine V.les_cons (V.le_refl _ _) ?_)
theorem cvs_ar32 {h h' : Hp} {E : Int → V} {l : List Int} {r r' : List V} (hE : ∀ x, Conv h h' (E x) (E x)) (hr : Convs h h' r r') : Convs h h' (ar32 E l r) (ar32 E l r') := by
  unfold ar32
  repeat (first | exact hr | refine Convs.cons (hE _) ?_)
def aeq32 (a b : List Int) (r : Bool) : Bool := ((a.getD 0 0 == b.getD 0 0) && ((a.getD 1 0 == b.getD 1 0) && ((a.getD 2 0 == b.getD 2 0) && ((a.getD 3 0 == b.getD 3 0) && ((a.getD 4 0 == b.getD 4 0) && ((a.getD 5 0 == b.getD 5 0) && ((a.getD 6 0 == b.getD 6 0) && ((a.getD 7 0 == b.getD 7 0) && ((a.getD 8 0 == b.getD 8 0) && ((a.getD 9 0 == b.getD 9 0) && ((a.getD 10 0 == b.getD 10 0) && ((a.getD 11 0 == b.getD 11 0) && ((a.getD 12 0 == b.getD 12 0) && ((a.getD 13 0 == b.getD 13 0) && ((a.getD 14 0 == b.getD 14 0) && ((a.getD 15 0 == b.getD 15 0) && ((a.getD 16 0 == b.getD 16 0) && ((a.getD 17 0 == b.getD 17 0) && ((a.getD 18 0 == b.getD 18 0) && ((a.getD 19 0 == b.getD 19 0) && ((a.getD 20 0 == b.getD 20 0) && ((a.getD 21 0 == b.getD 21 0) && ((a.getD 22 0 == b.getD 22 0) && ((a.getD 23 0 == b.getD 23 0) && ((a.getD 24 0 == b.getD 24 0) && ((a.getD 25 0 == b.getD 25 0) && ((a.getD 26 0 == b.getD 26 0) && ((a.getD 27 0 == b.getD 27 0) && ((a.getD 28 0 == b.getD 28 0) && ((a.getD 29 0 == b.getD 29 0) && ((a.getD 30 0 == b.getD 30 0) && ((a.getD 31 0 == b.getD 31 0) && r))))))))))))))))))))))))))))))))
theorem aeq32_iff {a b : List Int} (ha : a.length = 32) (hb : b.length = 32) (r : Bool) : aeq32 a b r = ((a == b) && r) := by
  have e : aeq32 a b r = ((List.range 32).all (fun i => a.getD i 0 == b.getD i 0) && r) := by
    simp only [aeq32, show List.range 32 = [0, 1, 2, 3, 4, 5, 6, 7, 8, 9, 10, 11, 12, 13, 14, 15, 16, 17, 18, 19, 20, 21, 22, 23, 24, 25, 26, 27, 28, 29, 30, 31] from rfl, List.all_cons, List.all_nil, Bool.and_assoc, Bool.true_and, Bool.and_true]
  rw [e, range_all ha hb]
def ar64 (E : Int → V) (l : List Int) (r : List V) : List V := E (l.getD 0 0) :: E (l.getD 1 0) :: E (l.getD 2 0) :: E (l.getD 3 0) :: E (l.getD 4 0) :: E (l.getD 5 0) :: E (l.getD 6 0) :: E (l.getD 7 0) :: E (l.getD 8 0) :: E (l.getD 9 0) :: E (l.getD 10 0) :: E (l.getD 11 0) :: E (l.getD 12 0) :: E (l.getD 13 0) :: E (l.getD 14 0) :: E (l.getD 15 0) :: E (l.getD 16 0) :: E (l.getD 17 0) :: E (l.getD 18 0) :: E (l.getD 19 0) :: E (l.getD 20 0) :: E (l.getD 21 0) :: E (l.getD 22 0) :: E (l.getD 23 0) :: E (l.getD 24 0) :: E (l.getD 25 0) :: E (l.getD 26 0) :: E (l.getD 27 0) :: E (l.getD 28 0) :: E (l.getD 29 0) :: E (l.getD 30 0) :: E (l.getD 31 0) :: E (l.getD 32 0) :: E (l.getD 33 0) :: E (l.getD 34 0) :: E (l.getD 35 0) :: E (l.getD 36 0) :: E (l.getD 37 0) :: E (l.getD 38 0) :: E (l.getD 39 0) :: E (l.getD 40 0) :: E (l.getD 41 0) :: E (l.getD 42 0) :: E (l.getD 43 0) :: E (l.getD 44 0) :: E (l.getD 45 0) :: E (l.getD 46 0) :: E (l.getD 47 0) :: E (l.getD 48 0) :: E (l.getD 49 0) :: E (l.getD 50 0) :: E (l.getD 51 0) :: E (l.getD 52 0) :: E (l.getD 53 0) :: E (l.getD 54 0) :: E (l.getD 55 0) :: E (l.getD 56 0) :: E (l.getD 57 0) :: E (l.getD 58 0) :: E (l.getD 59 0) :: E (l.getD 60 0) :: E (l.getD 61 0) :: E (l.getD 62 0) :: E (l.getD 63 0) :: r
theorem ar64_map {E : Int → V} {l : List Int} (h : l.length = 64) (r : List V) : ar64 E l r = l.map E ++ r := by
  rw [← range_getD h]; rfl
theorem ar64_nil {E : Int → V} {l : List Int} (h : l.length = 64) : ar64 E l [] = l.map E := by rw [ar64_map h]; simp
theorem to64 {P : Program} {E : Int → V} {l : List Int} {t : TypeId} {cs : List V} (h : l.length = 64) (hp : partV P t cs = some (.agg (ar64 E l []))) : partV P t cs = some (.agg (l.map E)) := by rw [hp, ar64_nil h]
theorem stE64 {P : Program} {E : Int → V} {l : List Int} {t : TypeId} {h h' : Hp} {a : V} (q : l.length = 64) (hp : storeV P t h a (.agg (ar64 E l [])) = some h') : storeV P t h a (.agg (l.map E)) = some h' := by rw [← ar64_nil q]; exact hp
theorem rns_ar64 {f : Nat → Nat} {k : IntKind} {l : List Int} {r : List V} : V.rns f (ar64 (eI k) l r) = ar64 (eI k) l (V.rns f r) := rfl
theorem les_ar64 {vn : Nat → Bool} {E : Int → V} {l : List Int} {r r' : List V} (hr : V.les vn r r') : V.les vn (ar64 E l r) (ar64 E l r') := by
  unfold ar64
  repeat (first | exact hr | refine V.les_cons (V.le_refl _ _) ?_)
theorem cvs_ar64 {h h' : Hp} {E : Int → V} {l : List Int} {r r' : List V} (hE : ∀ x, Conv h h' (E x) (E x)) (hr : Convs h h' r r') : Convs h h' (ar64 E l r) (ar64 E l r') := by
  unfold ar64
  repeat (first | exact hr | refine Convs.cons (hE _) ?_)
def aeq64 (a b : List Int) (r : Bool) : Bool := ((a.getD 0 0 == b.getD 0 0) && ((a.getD 1 0 == b.getD 1 0) && ((a.getD 2 0 == b.getD 2 0) && ((a.getD 3 0 == b.getD 3 0) && ((a.getD 4 0 == b.getD 4 0) && ((a.getD 5 0 == b.getD 5 0) && ((a.getD 6 0 == b.getD 6 0) && ((a.getD 7 0 == b.getD 7 0) && ((a.getD 8 0 == b.getD 8 0) && ((a.getD 9 0 == b.getD 9 0) && ((a.getD 10 0 == b.getD 10 0) && ((a.getD 11 0 == b.getD 11 0) && ((a.getD 12 0 == b.getD 12 0) && ((a.getD 13 0 == b.getD 13 0) && ((a.getD 14 0 == b.getD 14 0) && ((a.getD 15 0 == b.getD 15 0) && ((a.getD 16 0 == b.getD 16 0) && ((a.getD 17 0 == b.getD 17 0) && ((a.getD 18 0 == b.getD 18 0) && ((a.getD 19 0 == b.getD 19 0) && ((a.getD 20 0 == b.getD 20 0) && ((a.getD 21 0 == b.getD 21 0) && ((a.getD 22 0 == b.getD 22 0) && ((a.getD 23 0 == b.getD 23 0) && ((a.getD 24 0 == b.getD 24 0) && ((a.getD 25 0 == b.getD 25 0) && ((a.getD 26 0 == b.getD 26 0) && ((a.getD 27 0 == b.getD 27 0) && ((a.getD 28 0 == b.getD 28 0) && ((a.getD 29 0 == b.getD 29 0) && ((a.getD 30 0 == b.getD 30 0) && ((a.getD 31 0 == b.getD 31 0) && ((a.getD 32 0 == b.getD 32 0) && ((a.getD 33 0 == b.getD 33 0) && ((a.getD 34 0 == b.getD 34 0) && ((a.getD 35 0 == b.getD 35 0) && ((a.getD 36 0 == b.getD 36 0) && ((a.getD 37 0 == b.getD 37 0) && ((a.getD 38 0 == b.getD 38 0) && ((a.getD 39 0 == b.getD 39 0) && ((a.getD 40 0 == b.getD 40 0) && ((a.getD 41 0 == b.getD 41 0) && ((a.getD 42 0 == b.getD 42 0) && ((a.getD 43 0 == b.getD 43 0) && ((a.getD 44 0 == b.getD 44 0) && ((a.getD 45 0 == b.getD 45 0) && ((a.getD 46 0 == b.getD 46 0) && ((a.getD 47 0 == b.getD 47 0) && ((a.getD 48 0 == b.getD 48 0) && ((a.getD 49 0 == b.getD 49 0) && ((a.getD 50 0 == b.getD 50 0) && ((a.getD 51 0 == b.getD 51 0) && ((a.getD 52 0 == b.getD 52 0) && ((a.getD 53 0 == b.getD 53 0) && ((a.getD 54 0 == b.getD 54 0) && ((a.getD 55 0 == b.getD 55 0) && ((a.getD 56 0 == b.getD 56 0) && ((a.getD 57 0 == b.getD 57 0) && ((a.getD 58 0 == b.getD 58 0) && ((a.getD 59 0 == b.getD 59 0) && ((a.getD 60 0 == b.getD 60 0) && ((a.getD 61 0 == b.getD 61 0) && ((a.getD 62 0 == b.getD 62 0) && ((a.getD 63 0 == b.getD 63 0) && r))))))))))))))))))))))))))))))))))))))))))))))))))))))))))))))))
theorem aeq64_iff {a b : List Int} (ha : a.length = 64) (hb : b.length = 64) (r : Bool) : aeq64 a b r = ((a == b) && r) := by
  have e : aeq64 a b r = ((List.range 64).all (fun i => a.getD i 0 == b.getD i 0) && r) := by
    simp only [aeq64, show List.range 64 = [0, 1, 2, 3, 4, 5, 6, 7, 8, 9, 10, 11, 12, 13, 14, 15, 16, 17, 18, 19, 20, 21, 22, 23, 24, 25, 26, 27, 28, 29, 30, 31, 32, 33, 34, 35, 36, 37, 38, 39, 40, 41, 42, 43, 44, 45, 46, 47, 48, 49, 50, 51, 52, 53, 54, 55, 56, 57, 58, 59, 60, 61, 62, 63] from rfl, List.all_cons, List.all_nil, Bool.and_assoc, Bool.true_and, Bool.and_true]
  rw [e, range_all ha hb]
end Go.Vm
