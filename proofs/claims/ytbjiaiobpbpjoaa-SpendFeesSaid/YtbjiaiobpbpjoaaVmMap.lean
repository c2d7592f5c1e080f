import Derived.Test.YtbjiaiobpbpjoaaVmSound2
import Derived.MapKept
set_option linter.unusedSimpArgs false
set_option linter.unusedVariables false
namespace Go.Vm
open Go

/-! ### Maps -/
def shN (d : TI) : Nat := if isAggD d.desc then d.size else 0
def okSh (d : TI) : Bool := if isAggD d.desc then decide (0 < d.size) && decide (d.size < 1000) else true
structure MT where
  kt : TypeId
  et : TypeId
  dk : TI
  de : TI
def mapTy (P : Program) (t : TypeId) : Option MT :=
  match tiOf P t with
  | some ⟨.map k e, _, _, _⟩ => match tiOf P k, tiOf P e with
    | some dk, some de => if okSh dk && okSh de then some ⟨k, e, dk, de⟩ else none
    | _, _ => none
  | _ => none
def MT.code (m : MT) : Nat := shN m.dk * 1000 + shN m.de
def width (n : Nat) : Nat := if n = 0 then 1 else n
def mkSh (n : Nat) (cs : List V) : V := if n = 0 then cs.headD .any else .agg cs
def isSh (n : Nat) (x : V) : Bool := x.flatOk && (if n = 0 then x.one else match x with
  | .agg cs => cs.length == n
  | _ => false)
/-- The entries, out of the cells. -/
def entV (k l : Nat) : Nat → List V → List (V × V)
  | 0, _ => []
  | n + 1, cs => (mkSh k (cs.take (width k)), mkSh l ((cs.drop (width k)).take (width l))) :: entV k l n (cs.drop (width k + width l))
def flatE (es : List (V × V)) : List V := es.flatMap fun e => e.1.cells ++ e.2.cells
def findIx (P : Program) (kt : TypeId) (kv : Value) : List Value → Option (Option Nat)
  | [] => some none
  | k :: ks => match evalPure P (Go.Op.equal kt kv k) with
    | some true => some (some 0)
    | some false => (findIx P kt kv ks).map (·.map (· + 1))
    | none => none
structure MAt where
  m : MT
  b : Nat
  B : Blk
  es : List (V × V)
def mapAt (P : Program) (t : TypeId) (h : Hp) (x : V) : Option MAt :=
  match mapTy P t, x with
  | some m, .mp b => match h[b]? with
    | some (some B) => if B.e = m.code then some ⟨m, b, B, entV (shN m.dk) (shN m.de) (B.cells.length / (width (shN m.dk) + width (shN m.de))) B.cells⟩ else none
    | _ => none
  | _, _ => none
/-- The key's value, the keys' values, the place of the key. -/
def mapFind (P : Program) (kt : TypeId) (es : List (V × V)) (k : V) : Option (Value × List Value × Option Nat) :=
  match toVal k, es.mapM (fun e => toVal e.1) with
  | some kv, some ks => match evalPure P (Instr.checkKey true 10000 kt kv), evalPure P (Instr.checkKey false 10000 kt kv), findIx P kt kv ks with
    | some _, some _, some ix => some (kv, ks, ix)
    | _, _, _ => none
  | _, _ => none
def makeMapV (P : Program) (t : TypeId) (h : Hp) : Option (V × Hp) := (mapTy P t).map fun m => (.mp h.length, h ++ [some ⟨m.code, []⟩])
def lookupV (P : Program) (t : TypeId) (h : Hp) (x k : V) (ok : Bool) : Option V :=
  match mapAt P t h x with
  | none => none
  | some a => match mapFind P a.m.kt a.es k with
    | none => none
    | some (_, _, none) => some (if ok then .tup [ofValue a.m.de.zero, .sc (.bool false)] else ofValue a.m.de.zero)
    | some (_, _, some i) => match a.es[i]? with
      | none => none
      | some e => some (if ok then .tup [e.2, .sc (.bool true)] else e.2)
def staysV (ks : List Value) (i : Nat) (kv : Value) : Bool := (ks[i]?).any fun old => Instr.sameBits 10000 old kv
def updV (P : Program) (t : TypeId) (h : Hp) (x k v : V) : Option Hp :=
  match mapAt P t h x with
  | none => none
  | some a => if isSh (shN a.m.dk) k && isSh (shN a.m.de) v then match mapFind P a.m.kt a.es k with
    | none => none
    | some (_, _, none) => some (h.set a.b (some ⟨a.B.e, a.B.cells ++ (k.cells ++ v.cells)⟩))
    | some (kv, ks, some i) => if staysV ks i kv then some (h.set a.b (some ⟨a.B.e, flatE (a.es.set i (k, v))⟩)) else none
    else none

/-! ### What they do -/
theorem width_pos (n : Nat) : 0 < width n := by unfold width; split <;> omega
theorem shape_cells {n : Nat} {v : Value} (h : ShapeN n v) : v.cells.size = width n := by
  unfold ShapeN at h
  unfold width
  split at h
  · rename_i h0
    rw [cells_of_oneCell h, if_pos h0]; rfl
  · rename_i h0
    obtain ⟨xs, rfl, hx⟩ := h
    rw [if_neg h0]; exact hx
section
variable {X : Nat → Prop} {M : List (Option Nat)} {w : World}
theorem mkSh_rel {n : Nat} {v : Value} (h : ShapeN n v) {cs : List V} (hc : VCells X M w cs v.cells.toList) : VR X M w (mkSh n cs) v := by
  unfold ShapeN at h
  unfold mkSh
  split at h
  · rename_i h0
    rw [if_pos h0]
    rw [cells_of_oneCell h] at hc
    match cs, hc with
    | [], hc => unfold VCells at hc; simp at hc
    | c :: cs, hc =>
      unfold VCells at hc
      obtain ⟨u, rest, h1, h2, _⟩ := hc
      simp at h1
      rw [h1.1]; exact h2
  · rename_i h0
    obtain ⟨xs, rfl, hx⟩ := h
    rw [if_neg h0]
    unfold VR
    exact ⟨xs.toList, by simp, hc⟩
def ERel (X : Nat → Prop) (M : List (Option Nat)) (w : World) : List (V × V) → List MapEntry → Prop
  | [], [] => True
  | p :: ps, e :: es => VR X M w p.1 e.key ∧ VR X M w p.2 e.val ∧ ERel X M w ps es
  | _, _ => False
theorem flatEs_len {k l : Nat} : ∀ {es : List MapEntry}, (∀ x ∈ es, ShapeN k x.key ∧ ShapeN l x.val) → (flatEs es).length = es.length * (width k + width l)
  | [], _ => by simp [flatEs]
  | e :: es, h => by
    have h1 := h e (by simp)
    have := flatEs_len (es := es) (fun x hx => h x (by simp [hx]))
    have e1 : (flatEs (e :: es)).length = (e.key.cells.toList ++ e.val.cells.toList).length + (flatEs es).length := by simp only [flatEs, List.flatMap_cons, List.length_append]
    rw [e1, this]
    simp only [List.length_append, Array.length_toList, shape_cells h1.1, shape_cells h1.2, List.length_cons, Nat.add_mul, Nat.one_mul]
    omega
theorem entV_rel {k l : Nat} : ∀ {es : List MapEntry} {cs : List V}, (∀ x ∈ es, ShapeN k x.key ∧ ShapeN l x.val) → VCells X M w cs (flatEs es) → ERel X M w (entV k l es.length cs) es
  | [], cs, _, _ => by simp [entV, ERel]
  | e :: es, cs, h, hc => by
    have h1 := h e (by simp)
    have s1 := shape_cells h1.1
    have s2 := shape_cells h1.2
    have e1 : flatEs (e :: es) = e.key.cells.toList ++ (e.val.cells.toList ++ flatEs es) := by simp [flatEs]
    rw [e1] at hc
    have t1 := hc.take (width k)
    rw [List.take_left' (by simpa using s1)] at t1
    have d1 := hc.drop (width k)
    rw [List.drop_left' (by simpa using s1)] at d1
    have t2 := d1.take (width l)
    rw [List.take_left' (by simpa using s2)] at t2
    have d2 := d1.drop (width l)
    rw [List.drop_left' (by simpa using s2), List.drop_drop] at d2
    simp only [List.length_cons, entV, ERel]
    exact ⟨mkSh_rel h1.1 t1, mkSh_rel h1.2 t2, entV_rel (fun x hx => h x (by simp [hx])) d2⟩
theorem ERel.get : ∀ {ps : List (V × V)} {es : List MapEntry}, ERel X M w ps es → ∀ {i : Nat} {p : V × V}, ps[i]? = some p → ∃ e, es[i]? = some e ∧ VR X M w p.1 e.key ∧ VR X M w p.2 e.val
  | [], [], _, i, p, hp => by simp at hp
  | q :: ps, e :: es, h, 0, p, hp => by
    simp at hp; subst hp
    exact ⟨e, rfl, h.1, h.2.1⟩
  | q :: ps, e :: es, h, i + 1, p, hp => by
    obtain ⟨e', h1, h2⟩ := ERel.get h.2.2 (i := i) (p := p) (by simpa using hp)
    exact ⟨e', by simpa using h1, h2⟩
  | [], e :: es, h, _, _, _ => h.elim
  | q :: ps, [], h, _, _, _ => h.elim
theorem ERel.keys : ∀ {ps : List (V × V)} {es : List MapEntry}, ERel X M w ps es → ∀ {ks : List Value}, ps.mapM (fun e => toVal e.1) = some ks → es.map (·.key) = ks
  | [], [], _, ks, h => by simp at h; subst h; rfl
  | q :: ps, e :: es, h, ks, hk => by
    simp only [List.mapM_cons, Option.bind_eq_bind, Option.bind_eq_some_iff] at hk
    obtain ⟨v, hv, vs, hvs, hks⟩ := hk
    injection hks with hks
    subst hks
    rw [List.map_cons, ERel.keys h.2.2 hvs, VR_toVal h.1 hv]
  | [], e :: es, h, _, _ => h.elim
  | q :: ps, [], h, _, _ => h.elim
end
section
variable {P : Program} {w : World}
theorem same_equal {kt : TypeId} {d : TypeDesc} (hd : P.underlying kt = some d) {a b : Value} {r : Bool} (h : Instr.sameNow d a b = some r) : evalPure P (Go.Op.equal kt a b) = some r := by
  have hu : evalPure P (underlying kt) = some d := by
    show evalPure P (match P.underlying kt with | some d => pure d | none => stuck "no such type") = _
    rw [hd]; rfl
  unfold Go.Op.equal Go.Op.maxDepth
  rw [Go.Op.equalIn]
  show evalPure P (Sem.bind (underlying kt) _) = _
  have hb : ∀ {α β : Type} (s : Sem α) (f : α → Sem β) {a : α}, evalPure P s = some a → evalPure P (Sem.bind s f) = evalPure P (f a) := by
    intro α β s f a h
    induction s with
    | pure x => simp only [evalPure, Option.some.injEq] at h; subst h; rfl
    | program k ih => exact ih P h
    | mark m k ih => exact ih h
    | _ => simp [evalPure] at h
  rw [hb _ _ hu]
  unfold Instr.sameNow at h
  split at h
  · split at h
    · rename_i hk; subst hk; injection h with h; subst h; simp only [if_true]; rfl
    · cases h
  · injection h with h; subst h; rfl
  · injection h with h; subst h; rfl
  · cases h
theorem findAsking_run {kt : TypeId} {kv : Value} : ∀ (es : List MapEntry) (i : Nat) {ix : Option Nat}, findIx P kt kv (es.map (·.key)) = some ix → (Instr.findAsking kt kv es i).run P w = .ok (ix.bind fun j => (es[j]?).map fun e => (i + j, e.val)) w
  | [], i, ix, h => by simp [findIx] at h; subst h; simp [Instr.findAsking]
  | e :: es, i, ix, h => by
    simp only [List.map_cons, findIx] at h
    unfold Instr.findAsking
    split at h
    · rename_i hq
      injection h with h; subst h
      rw [Sem.run_bind, evalPure_run _ hq w, Result.andThen_ok]
      simp
    · rename_i hq
      simp only [Option.map_eq_some_iff] at h
      obtain ⟨jx, hj, rfl⟩ := h
      rw [Sem.run_bind, evalPure_run _ hq w, Result.andThen_ok]
      simp only [Bool.false_eq_true, if_false]
      rw [findAsking_run es (i + 1) hj]
      cases jx with
      | none => rfl
      | some j => simp [Nat.add_assoc, Nat.add_comm 1 j]
    · cases h
theorem findNow_is {kt : TypeId} {d : TypeDesc} (hd : P.underlying kt = some d) {kv : Value} : ∀ (es : List MapEntry) (i : Nat) {ix : Option Nat} {r : Option (Nat × Value)}, findIx P kt kv (es.map (·.key)) = some ix → Instr.findNow d kv es i = some r → r = ix.bind fun j => (es[j]?).map fun e => (i + j, e.val)
  | [], i, ix, r, h, hr => by simp [findIx] at h; simp [Instr.findNow] at hr; subst h hr; rfl
  | e :: es, i, ix, r, h, hr => by
    simp only [List.map_cons, findIx] at h
    unfold Instr.findNow at hr
    split at hr
    · rename_i hs
      rw [same_equal hd hs] at h
      injection h with h; injection hr with hr; subst h hr; simp
    · rename_i hs
      rw [same_equal hd hs] at h
      simp only [Option.map_eq_some_iff] at h
      obtain ⟨jx, hj, rfl⟩ := h
      rw [findNow_is hd es (i + 1) hj hr]
      cases jx with
      | none => rfl
      | some j => simp [Nat.add_assoc, Nat.add_comm 1 j]
    · cases hr
theorem findKey_run {kt : TypeId} {d : TypeDesc} (hd : P.underlying kt = some d) {kv : Value} {es : List MapEntry} {ix : Option Nat} (h : findIx P kt kv (es.map (·.key)) = some ix) : (Instr.findKey kt kv es).run P w = .ok (ix.bind fun j => (es[j]?).map fun e => (j, e.val)) w := by
  unfold Instr.findKey
  rw [Sem.run_bind, run_underlying hd w, Result.andThen_ok]
  cases hn : Instr.findNow d kv es 0 with
  | some r =>
    simp only
    have := findNow_is hd es 0 h hn
    simp only [Nat.zero_add] at this
    rw [this]; rfl
  | none =>
    simp only
    have := findAsking_run (w := w) es 0 h
    simpa only [Nat.zero_add] using this
theorem findIx_lt {kt : TypeId} {kv : Value} : ∀ {ks : List Value} {i : Nat}, findIx P kt kv ks = some (some i) → i < ks.length
  | [], i, h => by simp [findIx] at h
  | k :: ks, i, h => by
    simp only [findIx] at h
    split at h
    · injection h with h; injection h with h; subst h; simp
    · simp only [Option.map_eq_some_iff] at h
      obtain ⟨jx, hj, h2⟩ := h
      cases jx with
      | none => simp at h2
      | some j => simp at h2; subst h2; have := findIx_lt hj; simp; omega
    · cases h
end
section
variable {P : Program} {A : Nat → Prop} {M : List (Option Nat)} {h : Hp} {w : World}
theorem mapTy_spec {t : TypeId} {m : MT} (hm : mapTy P t = some m) : P.underlying t = some (.map m.kt m.et) ∧ tiOf P m.kt = some m.dk ∧ tiOf P m.et = some m.de ∧ okSh m.dk = true ∧ okSh m.de = true := by
  unfold mapTy at hm
  split at hm
  · rename_i k e _ _ _ ht
    split at hm
    · rename_i dk de h1 h2
      split at hm
      · rename_i hc
        injection hm with hm; subst hm
        simp only [Bool.and_eq_true] at hc
        exact ⟨(tiOf_spec ht).1, h1, h2, hc.1, hc.2⟩
      · cases hm
    · cases hm
  · cases hm
theorem shN_lt {d : TI} (h : okSh d = true) : shN d < 1000 := by
  unfold okSh at h
  unfold shN
  split <;> simp_all
theorem code_div {m : MT} (h2 : okSh m.de = true) : m.code / 1000 = shN m.dk ∧ m.code % 1000 = shN m.de := by
  have := shN_lt h2
  unfold MT.code
  omega
/-- What lies in the block of a map. -/
theorem mapAt_spec (H : HR A M h w) {t : TypeId} {x : V} {v : Value} {a : MAt} (ha : mapAt P t h x = some a) (hx : VR (Xs A M h) M w x v) :
    mapTy P t = some a.m ∧ a.B.e = a.m.code ∧ h[a.b]? = some (some a.B) ∧ (∀ c ∈ a.B.cells, c.one = true) ∧ ∃ g es clock cs, M[a.b]? = some (some g) ∧ ¬ A g ∧ v = .map (some g) ∧ w.heap[g]? = some (.map es clock) ∧ MapOk a.B.e es clock cs ∧ a.B.cells.length = cs.size ∧
      (∀ x ∈ es.toList, ShapeN (shN a.m.dk) x.key ∧ ShapeN (shN a.m.de) x.val) ∧ VCells (Xs A M h) M w a.B.cells (flatEs es.toList) ∧ ERel (Xs A M h) M w a.es es.toList := by
  unfold mapAt at ha
  split at ha
  · rename_i m b hm
    split at ha
    · rename_i B hb
      split at ha
      · rename_i he
        injection ha with ha; subst ha
        unfold VR at hx
        obtain ⟨g, hg, rfl, hl, hs⟩ := hx
        obtain ⟨hone, ⟨hn, _⟩ | ⟨g', cs, hg', hA, hh, hle, hcs⟩⟩ := H.blk b B hb
        · rw [hg] at hn; cases hn
        · rw [hg] at hg'; injection hg' with hg'; injection hg' with hg'; subst hg'
          obtain ⟨es, clock, h1, h2, h3⟩ := hh.inMap hs
          obtain ⟨_, _, _, _, ok2⟩ := mapTy_spec hm
          have hsh := h2.shp
          rw [he, (code_div ok2).1, (code_div ok2).2] at hsh
          rw [h3, List.take_of_length_le (by simp), h2.cells] at hcs
          have hn : B.cells.length / (width (shN m.dk) + width (shN m.de)) = es.toList.length := by
            rw [hcs.len, flatEs_len hsh]
            exact Nat.mul_div_cancel _ (by have := width_pos (shN m.dk); omega)
          refine ⟨hm, he, hb, hone, g, es, clock, cs, hg, hA, rfl, h1, h2, h3, hsh, hcs, ?_⟩
          simp only
          rw [hn]
          exact entV_rel hsh hcs
      · cases ha
    · cases ha
  · cases ha
theorem mapAt_es {t : TypeId} {x : V} {a : MAt} (ha : mapAt P t h x = some a) : a.es = entV (shN a.m.dk) (shN a.m.de) (a.B.cells.length / (width (shN a.m.dk) + width (shN a.m.de))) a.B.cells := by
  unfold mapAt at ha
  split at ha
  · split at ha
    · split at ha
      · injection ha with ha; subst ha; rfl
      · cases ha
    · cases ha
  · cases ha
theorem mapFind_spec {kt : TypeId} {es : List (V × V)} {k : V} {kv : Value} {ks : List Value} {ix : Option Nat} (h : mapFind P kt es k = some (kv, ks, ix)) :
    toVal k = some kv ∧ es.mapM (fun e => toVal e.1) = some ks ∧ (∀ b, evalPure P (Instr.checkKey b 10000 kt kv) = some ()) ∧ findIx P kt kv ks = some ix := by
  unfold mapFind at h
  split at h
  · rename_i kv' ks' h1 h2
    split at h
    · rename_i ix' h3 h4 h5
      simp only [Option.some.injEq, Prod.mk.injEq] at h
      obtain ⟨rfl, rfl, rfl⟩ := h
      exact ⟨h1, h2, fun b => by
        cases b
        · exact h4
        · exact h3, h5⟩
    · cases h
  · cases h
theorem lookupV_sound (H : HR A M h w) {t : TypeId} {x k r : V} {ok : Bool} {vx vk : Value} (hx : VR (Xs A M h) M w x vx) (hk : VR (Xs A M h) M w k vk) (hr : lookupV P t h x k ok = some r) :
    ∃ u, (Instr.lookup t vx vk ok).run P w = .ok u w ∧ VR (Xs A M h) M w r u := by
  unfold lookupV at hr
  split at hr
  · cases hr
  · rename_i a ha
    obtain ⟨hm, he, hb, hone, g, es, clock, cs, hg, hA, rfl, hw, hok, hn, hsh, hcs, hE⟩ := mapAt_spec H ha hx
    obtain ⟨hu, hdk, hde, _, _⟩ := mapTy_spec hm
    have hget : (getObj g).run P w = .ok (.map es clock) w := by simp [getObj, Sem.run, hw]
    have tup : ∀ {y : V} {u : Value} {b : Bool}, VR (Xs A M h) M w y u → VR (Xs A M h) M w (if ok = true then .tup [y, .sc (.bool b)] else y) (if ok = true then .tuple #[u, .bool b] else u) := by
      intro y u b hy
      cases ok with
      | false => exact hy
      | true =>
        simp only [if_true]
        unfold VR
        refine ⟨[u, .bool b], rfl, ?_⟩
        unfold VCells
        refine ⟨_, _, rfl, hy, ?_⟩
        unfold VCells
        refine ⟨_, _, rfl, by unfold VR; rfl, by unfold VCells; rfl⟩
    split at hr
    · cases hr
    · rename_i kv ks hf
      obtain ⟨h1, h2, h3, h4⟩ := mapFind_spec hf
      have hkv := VR_toVal hk h1
      subst hkv
      rw [← hE.keys h2] at h4
      have hfk := findKey_run (w := w) (tiOf_spec hdk).1 h4
      injection hr with hr; subst hr
      refine ⟨_, ?_, tup (VR_ofValue a.m.de.zero)⟩
      have hc := evalPure_run _ (h3 es.isEmpty) w
      simp [Instr.lookup, run_underlying hu, hget, hc, hfk, run_zero hde]
    · rename_i kv ks i hf
      obtain ⟨h1, h2, h3, h4⟩ := mapFind_spec hf
      have hkv := VR_toVal hk h1
      subst hkv
      rw [← hE.keys h2] at h4
      have hfk := findKey_run (w := w) (tiOf_spec hdk).1 h4
      split at hr
      · cases hr
      · rename_i e hei
        injection hr with hr; subst hr
        obtain ⟨e', q1, q2, q3⟩ := hE.get hei
        refine ⟨_, ?_, tup q3⟩
        have hc := evalPure_run _ (h3 es.isEmpty) w
        simp only [q1, Option.bind_some, Option.map_some] at hfk
        simp [Instr.lookup, run_underlying hu, hget, hc, hfk]
theorem makeMapV_sound (H : HR A M h w) {t : TypeId} {r : V} {h' : Hp} (hr : makeMapV P t h = some (r, h')) :
    ∃ v w' M', (Instr.makeMap t none).run P w = .ok v w' ∧ Grow A M h w M' h' w' ∧ VR (Xs A M' h') M' w' r v := by
  unfold makeMapV at hr
  simp only [Option.map_eq_some_iff, Prod.mk.injEq] at hr
  obtain ⟨m, hm, rfl, rfl⟩ := hr
  have hE : Ext (Live M h) w (w.alloc (.map #[] 0)) := Ext.alloc _ _ _
  have hlive : ∀ g, g < w.heap.size → Live (M ++ [some w.heap.size]) (h ++ [some ⟨m.code, []⟩]) g → Live M h g := by
    rintro g hg ⟨b, B, hb, hm⟩
    rcases get_snoc hm with hm' | ⟨_, hm'⟩
    · rcases get_snoc hb with hb' | ⟨rfl, _⟩
      · exact ⟨b, B, hb', hm'⟩
      · have := (List.getElem?_eq_some_iff.1 hm').1; rw [H.len] at this; omega
    · injection hm'; omega
  have keep : ∀ cs us, VCells (Xs A M h) M w cs us → VCells (Xs A (M ++ [some w.heap.size]) (h ++ [some ⟨m.code, []⟩])) (M ++ [some w.heap.size]) (w.alloc (.map #[] 0)) cs us :=
    fun cs us hh => VCells.ext hE ⟨_, rfl⟩ (fun _ _ hl => .inr hl) (fun g hg hx => hx.elim .inl (fun hl => .inr (hlive g hg hl))) cs us hh
  have hnew : (w.alloc (.map #[] 0)).heap[w.heap.size]? = some (.map #[] 0) := heap_alloc_new w _
  refine ⟨.map (some w.heap.size), w.alloc (.map #[] 0), M ++ [some w.heap.size], by simp [Instr.makeMap, newObj, Sem.run], ⟨⟨_, rfl⟩, ⟨by simp [H.len], fun g hg => by have := H.alt g hg; simp; omega, ?_, ?_, H.glob.grow hE hlive⟩, hE, hlive⟩, ?_⟩
  · intro b B hb
    rcases get_snoc hb with hb' | ⟨hbl, hB⟩
    · obtain ⟨h0, ⟨hn, hn'⟩ | ⟨g, cs, h1, h2, h3, h4, h5⟩⟩ := H.blk b B hb'
      · exact ⟨h0, .inl ⟨get_snoc_old hn, hn'⟩⟩
      · exact ⟨h0, .inr ⟨g, cs, get_snoc_old h1, h2, h3.to (RowKit.Below.heap_alloc w _ g (H.mlt hb' h1)), h4, keep _ _ h5⟩⟩
    · injection hB with hB
      subst hB
      refine ⟨(fun c hc => by cases hc), .inr ⟨w.heap.size, #[], by rw [hbl, ← H.len]; simp, fun ha => Nat.lt_irrefl _ (H.alt _ ha), .inr ⟨#[], 0, hnew, ⟨rfl, (fun x hx => by simp at hx), (fun x hx => by simp at hx)⟩, rfl⟩, Nat.le_refl _, ?_⟩⟩
      show VCells _ _ _ [] _
      unfold VCells; rfl
  · intro b b' B B' g hb hb' hm hm'
    rcases get_snoc hb with h1 | ⟨h1, _⟩ <;> rcases get_snoc hb' with h2 | ⟨h2, _⟩ <;> rcases get_snocM hm with m1 | ⟨m1, m1'⟩ <;> rcases get_snocM hm' with m2 | ⟨m2, m2'⟩
    · exact H.inj b b' B B' g h1 h2 m1 m2
    · have := H.mlt h1 m1; omega
    · have := H.mlt h2 m2; omega
    · have := (List.getElem?_eq_some_iff.1 h1).1; rw [m1, H.len] at this; omega
    all_goals first
      | (have := (List.getElem?_eq_some_iff.1 m2).1; rw [H.len] at this; omega)
      | (have := (List.getElem?_eq_some_iff.1 m1).1; rw [H.len] at this; omega)
      | (have := H.mlt h1 m1; omega)
      | (have := H.mlt h2 m2; omega)
      | omega
  · unfold VR
    refine ⟨w.heap.size, by rw [← H.len]; simp, rfl, by simp, ?_⟩
    unfold World.shape?; rw [hnew]
/-- A map is written anew. -/
theorem Grow.mapSet (H : HR A M h w) {b g : Nat} {B : Blk} (hb : h[b]? = some (some B)) (hg : M[b]? = some (some g)) {es0 es : Array MapEntry} {c0 clock : Nat} {cs : Array Value} {cells : List V} (hw : w.heap[g]? = some (.map es0 c0)) (hA : ¬ A g)
    (hok : MapOk B.e es clock cs) (hone : ∀ c ∈ cells, c.one = true) (hc : VCells (Xs A M h) M w cells (flatEs es.toList)) :
    Grow A M h w M (h.set b (some ⟨B.e, cells⟩)) { w with heap := w.heap.setIfInBounds g (.map es clock) } := by
  have hgs : g < w.heap.size := (Array.getElem?_eq_some_iff.1 hw).1
  have hE : Ext (Live M h) w { w with heap := w.heap.setIfInBounds g (.map es clock) } := by
    refine ⟨rfl, rfl, rfl, by simp, fun k hk hn => ?_, fun k sh hsh => ?_, fun k hk hsh => ?_⟩
    · show (w.heap.setIfInBounds g _)[k]? = _
      rw [Array.getElem?_setIfInBounds_ne (by rintro rfl; exact hn ⟨b, B, hb, hg⟩)]
    · unfold World.shape? at *
      show (match (w.heap.setIfInBounds g (.map es clock))[k]? with | some (.cells c elem _) => some (elem, c.size) | _ => none) = some sh
      by_cases hk : g = k
      · subst hk
        rw [hw] at hsh; cases hsh
      · rw [Array.getElem?_setIfInBounds_ne hk]; exact hsh
    · unfold World.shape? at *
      show (match (w.heap.setIfInBounds g (.map es clock))[k]? with | some (.cells c elem _) => some (elem, c.size) | _ => none) = none
      by_cases hk : g = k
      · subst hk
        rw [Array.getElem?_setIfInBounds_self_of_lt hgs]
      · rw [Array.getElem?_setIfInBounds_ne hk]; exact hsh
  have hlive : ∀ k, k < w.heap.size → Live M (h.set b (some ⟨B.e, cells⟩)) k → Live M h k := fun k _ hl => live_set hb hl
  have keep : ∀ cs us, VCells (Xs A M h) M w cs us → VCells (Xs A M (h.set b (some ⟨B.e, cells⟩))) M _ cs us :=
    fun cs us hk => VCells.ext hE (List.prefix_refl _) (fun _ _ hl => .inr hl) (fun k hk hx => hx.elim .inl (fun hl => .inr (hlive k hk hl))) cs us hk
  refine ⟨List.prefix_refl _, ⟨by simp [H.len], fun k hk => by simpa using H.alt k hk, ?_, ?_, H.glob.grow hE hlive⟩, hE, hlive⟩
  · intro i C hi
    rcases get_set hi with ⟨rfl, hC⟩ | ⟨hne, hi'⟩
    · injection hC with hC
      subst hC
      have hlen : cells.length = cs.size := by rw [hc.len, ← hok.cells]; simp
      refine ⟨hone, .inr ⟨g, cs, hg, hA, .inr ⟨es, clock, by simp [hgs], hok, hlen⟩, Nat.le_of_eq hlen, ?_⟩⟩
      simp only
      rw [hlen, List.take_of_length_le (by simp), hok.cells]
      exact keep _ _ hc
    · obtain ⟨h0, hn | ⟨k, ds, hk, hA', hh', hle', hds⟩⟩ := H.blk i C hi'
      · exact ⟨h0, .inl hn⟩
      refine ⟨h0, .inr ⟨k, ds, hk, hA', ?_, hle', keep _ _ hds⟩⟩
      have hkg : k ≠ g := by rintro rfl; exact hne (H.inj i b C B k hi' hb hk hg)
      refine hh'.to ?_
      show (w.heap.setIfInBounds g _)[k]? = _
      rw [Array.getElem?_setIfInBounds_ne (Ne.symm hkg)]
  · intro i j C D k hi hj mi mj
    rcases get_set hi with ⟨rfl, _⟩ | ⟨_, hi'⟩ <;> rcases get_set hj with ⟨rfl, _⟩ | ⟨_, hj'⟩
    · rfl
    · exact H.inj i j B D k hb hj' mi mj
    · exact H.inj i j C B k hi' hb mi mj
    · exact H.inj i j C D k hi' hj' mi mj
theorem isSh_rel {X : Nat → Prop} {n : Nat} {x : V} {v : Value} (h : isSh n x = true) (hx : VR X M w x v) : ShapeN n v ∧ VCells X M w x.cells v.cells.toList ∧ ∀ c ∈ x.cells, c.one = true := by
  unfold isSh at h
  rw [Bool.and_eq_true] at h
  refine ⟨?_, (hx.cells' h.1).1, List.all_eq_true.1 h.1⟩
  unfold ShapeN
  split
  · rename_i h0
    have h2 := h.2
    rw [if_pos h0] at h2
    exact hx.oneCell h2
  · rename_i h0
    have h2 := h.2
    rw [if_neg h0] at h2
    cases x with
    | agg cs =>
      simp only [beq_iff_eq] at h2
      unfold VR at hx
      obtain ⟨vs, rfl, hc⟩ := hx
      exact ⟨_, rfl, by rw [← h2, hc.len]; simp⟩
    | _ => simp at h2
theorem ERel.set {X : Nat → Prop} : ∀ {ps : List (V × V)} {es : List MapEntry}, ERel X M w ps es → ∀ {i : Nat} {p : V × V} {e : MapEntry}, VR X M w p.1 e.key → VR X M w p.2 e.val → ERel X M w (ps.set i p) (es.set i e)
  | [], [], _, i, _, _, _, _ => by simp [ERel]
  | q :: ps, f :: es, h, 0, p, e, h1, h2 => ⟨h1, h2, h.2.2⟩
  | q :: ps, f :: es, h, i + 1, p, e, h1, h2 => ⟨h.1, h.2.1, ERel.set h.2.2 h1 h2⟩
  | [], f :: es, h, _, _, _, _, _ => h.elim
  | q :: ps, [], h, _, _, _, _, _ => h.elim
theorem ERel.flat {X : Nat → Prop} : ∀ {ps : List (V × V)} {es : List MapEntry}, ERel X M w ps es → (∀ p ∈ ps, p.1.flatOk = true ∧ p.2.flatOk = true) → VCells X M w (flatE ps) (flatEs es) ∧ ∀ c ∈ flatE ps, c.one = true
  | [], [], _, _ => ⟨by simp [flatE, flatEs]; unfold VCells; rfl, by simp [flatE]⟩
  | q :: ps, f :: es, h, hf => by
    obtain ⟨h1, h2⟩ := hf q (by simp)
    obtain ⟨i1, i2⟩ := ERel.flat h.2.2 (fun p hp => hf p (by simp [hp]))
    have c1 := (h.1.cells' h1).1
    have c2 := (h.2.1.cells' h2).1
    refine ⟨?_, ?_⟩
    · simp only [flatE, flatEs, List.flatMap_cons]
      exact (c1.append c2).append i1
    · intro c hc
      simp only [flatE, List.flatMap_cons, List.mem_append] at hc
      rcases hc with (hc | hc) | hc
      · exact List.all_eq_true.1 h1 c hc
      · exact List.all_eq_true.1 h2 c hc
      · exact i2 c hc
  | [], f :: es, h, _ => h.elim
  | q :: ps, [], h, _ => h.elim
theorem mkSh_flat {n : Nat} {cs : List V} (h : ∀ c ∈ cs, c.one = true) (hl : cs.length = width n) : (mkSh n cs).flatOk = true := by
  unfold mkSh
  unfold width at hl
  split
  · rename_i h0
    rw [if_pos h0] at hl
    match cs, hl with
    | [c], _ =>
      have hc := h c (by simp)
      have e : c.cells = [c] := by cases c <;> first | rfl | simp [V.one] at hc
      simp [V.flatOk, e, hc]
  · simp only [V.flatOk, V.cells]
    exact List.all_eq_true.2 h
theorem entV_flat {k l : Nat} : ∀ (n : Nat) (cs : List V), (∀ c ∈ cs, c.one = true) → cs.length = n * (width k + width l) → ∀ p ∈ entV k l n cs, p.1.flatOk = true ∧ p.2.flatOk = true
  | 0, _, _, _ => by simp [entV]
  | n + 1, cs, h, hl => by
    rw [Nat.add_mul, Nat.one_mul] at hl
    intro p hp
    simp only [entV, List.mem_cons] at hp
    rcases hp with rfl | hp
    · exact ⟨mkSh_flat (fun c hc => h c (List.mem_of_mem_take hc)) (by simp; omega), mkSh_flat (fun c hc => h c (List.mem_of_mem_drop (List.mem_of_mem_take hc))) (by simp; omega)⟩
    · exact entV_flat n _ (fun c hc => h c (List.mem_of_mem_drop hc)) (by simp; omega) p hp
theorem updV_sound (H : HR A M h w) {t : TypeId} {x k y : V} {h' : Hp} {vx vk vy : Value} (hx : VR (Xs A M h) M w x vx) (hk : VR (Xs A M h) M w k vk) (hy : VR (Xs A M h) M w y vy) (hr : updV P t h x k y = some h') :
    ∃ w', (Instr.mapUpdate t vx vk vy).run P w = .ok () w' ∧ Grow A M h w M h' w' := by
  unfold updV at hr
  split at hr
  · cases hr
  · rename_i a ha
    obtain ⟨hm, he, hb, hone, g, es, clock, cs, hg, hA, rfl, hw, hok, hn, hsh, hcs, hE⟩ := mapAt_spec H ha hx
    obtain ⟨hu, hdk, hde, _, ok2⟩ := mapTy_spec hm
    have hget := MapKept.run_getObj_map (P := P) hw
    split at hr
    · rename_i hs
      rw [Bool.and_eq_true] at hs
      obtain ⟨k1, k2, k3⟩ := isSh_rel hs.1 hk
      obtain ⟨y1, y2, y3⟩ := isSh_rel hs.2 hy
      have cd := code_div ok2
      split at hr
      · cases hr
      · rename_i kv ks hf
        obtain ⟨h1, h2, h3, h4⟩ := mapFind_spec hf
        have hkv := VR_toVal hk h1
        subst hkv
        rw [← hE.keys h2] at h4
        have hfk := findKey_run (w := w) (tiOf_spec hdk).1 h4
        injection hr with hr; subst hr
        have hc := evalPure_run _ (h3 false) w
        have hfl : flatEs (es.push ⟨vk, vy, clock⟩).toList = flatEs es.toList ++ (vk.cells.toList ++ vy.cells.toList) := by simp [flatEs]
        refine ⟨_, ?_, Grow.mapSet H hb hg (es := es.push ⟨vk, vy, clock⟩) (clock := clock + 1) (cs := (flatEs (es.push ⟨vk, vy, clock⟩).toList).toArray) hw hA ⟨by simp, ?_, ?_⟩ ?_ ?_⟩
        · simp only [Option.bind_none] at hfk
          simp [Instr.mapUpdate, run_underlying hu, hget, hc, hfk, MapKept.run_setObj_map _ hw, Result.andThen]
        · intro z hz
          rw [he, cd.1, cd.2]
          simp only [Array.toList_push, List.mem_append, List.mem_singleton] at hz
          rcases hz with hz | rfl
          · exact hsh z hz
          · exact ⟨k1, y1⟩
        · intro z hz
          simp only [Array.toList_push, List.mem_append, List.mem_singleton] at hz
          rcases hz with hz | rfl
          · have := hok.born z hz; omega
          · simp
        · intro c hc'
          simp only [List.mem_append] at hc'
          rcases hc' with hc' | hc' | hc'
          · exact hone c hc'
          · exact k3 c hc'
          · exact y3 c hc'
        · rw [hfl]; exact hcs.append (k2.append y2)
      · rename_i kv ks i hf
        obtain ⟨h1, h2, h3, h4⟩ := mapFind_spec hf
        have hkv := VR_toVal hk h1
        subst hkv
        have hkeys := hE.keys h2
        rw [← hkeys] at h4
        have hfk := findKey_run (w := w) (tiOf_spec hdk).1 h4
        have hil := findIx_lt h4
        simp only [List.length_map] at hil
        split at hr
        · rename_i hsb
          injection hr with hr; subst hr
          have hc := evalPure_run _ (h3 false) w
          rw [← hkeys] at hsb
          have hei : es.toList[i]? = some es.toList[i] := List.getElem?_eq_getElem hil
          have hea : es[i]? = some es.toList[i] := by rw [← hei]; simp
          simp only [staysV, List.getElem?_map, hei, Option.map_some, Option.any_some] at hsb
          have hfl : (es.modify i fun e => { e with key := vk, val := vy }).toList = es.toList.set i ⟨vk, vy, es.toList[i].born⟩ := by
            apply List.ext_getElem?
            intro j
            simp only [Array.getElem?_toList, Array.getElem?_modify, List.getElem?_set]
            by_cases hij : i = j
            · subst hij
              simp only [if_true, hea, Option.map_some]
              rw [if_pos hil]
            · simp only [if_neg hij]
          have hER := hE.set (i := i) (p := (k, y)) (e := ⟨vk, vy, es.toList[i].born⟩) hk hy
          obtain ⟨f1, f2⟩ := hER.flat (fun p hp => by
            rcases List.mem_or_eq_of_mem_set hp with hp | rfl
            · have hlen : a.B.cells.length = es.toList.length * (width (shN a.m.dk) + width (shN a.m.de)) := by rw [hcs.len, flatEs_len hsh]
              rw [mapAt_es ha, hlen, Nat.mul_div_cancel _ (by have := width_pos (shN a.m.dk); omega)] at hp
              exact entV_flat _ _ hone hlen p hp
            · simp only [isSh, Bool.and_eq_true] at hs
              exact ⟨hs.1.1, hs.2.1⟩)
          rw [← hfl] at f1
          refine ⟨_, ?_, Grow.mapSet H hb hg (es := es.modify i fun e => { e with key := vk, val := vy }) (clock := clock) (cs := (flatEs (es.modify i fun e => { e with key := vk, val := vy }).toList).toArray) hw hA ⟨by simp, ?_, ?_⟩ f2 f1⟩
          · simp only [Option.bind_some, hei, Option.map_some] at hfk
            have hst : (Instr.keyThatStays es.toList[i].key vk).run P w = .ok vk w := by
              unfold Instr.keyThatStays
              rw [if_pos hsb]; rfl
            simp only [Array.getElem_toList] at hst
            simp [Instr.mapUpdate, run_underlying hu, hget, hc, hfk, MapKept.run_setObj_map _ hw, Result.andThen, hea, hst]
          · intro z hz
            rw [he, cd.1, cd.2]
            rw [hfl] at hz
            rcases List.mem_or_eq_of_mem_set hz with hz | rfl
            · exact hsh z hz
            · exact ⟨k1, y1⟩
          · intro z hz
            rw [hfl] at hz
            rcases List.mem_or_eq_of_mem_set hz with hz | rfl
            · exact hok.born z hz
            · exact hok.born es.toList[i] (List.getElem_mem hil)
        · cases hr
    · cases hr
end
end Go.Vm
