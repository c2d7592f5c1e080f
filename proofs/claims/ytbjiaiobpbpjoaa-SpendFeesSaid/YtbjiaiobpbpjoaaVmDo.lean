import Derived.Test.YtbjiaiobpbpjoaaVmApp
import Derived.Laws.MakeOwn
set_option linter.unusedSimpArgs false
set_option linter.unusedVariables false
namespace Go.Vm
open Go

def ev (s : List V) : Operand → Option V
  | .tmp t => s[t]?
  | .const v => some (ofValue v)
  | .func f => some (.sc (.func (.func f) #[] #[]))
  | .global g => (GT g).map fun e => .eptr [e] 0 0

def cellVal : V → Option Value
  | .sc v => some v
  | .row (some true) _ [] => some (.slice none 0 0)
  | _ => none
def toVal : V → Option Value
  | .agg cs => (cs.mapM cellVal).map fun vs => .agg vs.toArray
  | x => cellVal x

section
variable {X : Nat → Prop} {M : List (Option Nat)} {w : World}
theorem VR_cellVal {x : V} {v u : Value} (h : VR X M w x v) (hx : cellVal x = some u) : v = u := by
  unfold cellVal at hx
  split at hx
  · injection hx with hx; subst hx; unfold VR at h; exact h
  · injection hx with hx; subst hx; unfold VR at h
    obtain ⟨a, cap, rfl, _, h1, h2, _⟩ := h
    have := h2 true rfl
    cases a with
    | none => simp [h1 rfl]
    | some a => simp at this
  · cases hx
theorem VCells_vals : ∀ {cs : List V} {vs us : List Value}, VCells X M w cs vs → cs.mapM cellVal = some us → vs = us
  | [], vs, us, h, hm => by unfold VCells at h; simp at hm; rw [h, hm]
  | c :: cs, vs, us, h, hm => by
    unfold VCells at h
    obtain ⟨v, rest, rfl, h1, h2⟩ := h
    simp only [List.mapM_cons, Option.bind_eq_bind, Option.bind_eq_some_iff, Option.pure_def, Option.some.injEq] at hm
    obtain ⟨u, hu, us', hus, rfl⟩ := hm
    rw [VR_cellVal h1 hu, VCells_vals h2 hus]
theorem VR_toVal {x : V} {v u : Value} (h : VR X M w x v) (hx : toVal x = some u) : v = u := by
  unfold toVal at hx
  split at hx
  · rename_i cs
    simp only [Option.map_eq_some_iff] at hx
    obtain ⟨us, hus, rfl⟩ := hx
    unfold VR at h
    obtain ⟨vs, rfl, hc⟩ := h
    rw [VCells_vals hc hus]
  · exact VR_cellVal h hx
end

/-! ### What an operation does to the abstract state -/
def pureV (P : Program) (s : Sem Value) : Option V := (evalPure P s).map ofValue

def fieldAtV (P : Program) (s : TypeId) (x : V) (f : Nat) : Option V :=
  match tiOf P s with
  | some ⟨.struct fields, _, _, _⟩ =>
    match fields[f]? with
    | some fl =>
      match tiOf P fl.type with
      | some d => if d.size = 0 then none else
        match x with
        | .ptr b off => some (.ptr b (off + fl.offset))
        | .eptr es i off => some (.eptr es i (off + fl.offset))
        | _ => none
      | none => none
    | none => none
  | _ => none

def fieldV (P : Program) (s : TypeId) (x : V) (f : Nat) : Option V :=
  match tiOf P s with
  | some ⟨.struct fields, _, _, _⟩ =>
    match fields[f]?, x with
    | some fl, .agg cs => partV P fl.type (cs.drop fl.offset)
    | _, _ => none
  | _ => none

def asIdx : V → Option Int
  | .sc (.int _ n) => some n
  | _ => none

def indexAtV (P : Program) (t : TypeId) (x i : V) : Option V :=
  match tiOf P t, asIdx i with
  | some ⟨.slice e, _, _, _⟩, some n =>
    match tiOf P e with
    | none => none
    | some d =>
      match x with
      | .row _ k es => if k = d.size ∧ 0 ≤ n ∧ n < es.length then some (.eptr es n.toNat 0) else none
      | .sl b off m k _ => if k = d.size ∧ 0 ≤ n ∧ n < m then some (.ptr b (off + n.toNat * k)) else none
      | _ => none
  | some ⟨.array len e, _, _, _⟩, some n =>
    match tiOf P e with
    | none => none
    | some d =>
      match x with
      | .ptr b off => if 0 ≤ n ∧ n < len then some (.ptr b (off + n.toNat * d.size)) else none
      | .eptr es i off => if 0 ≤ n ∧ n < len then some (.eptr es i (off + n.toNat * d.size)) else none
      | _ => none
  | _, _ => none

def indexV (P : Program) (t : TypeId) (x i : V) : Option V :=
  match tiOf P t, x, asIdx i with
  | some ⟨.array len e, _, _, _⟩, .agg cs, some n =>
    match tiOf P e with
    | some d => if 0 ≤ n ∧ n < len then partV P e (cs.drop (n.toNat * d.size)) else none
    | none => none
  | some ⟨.string, _, _, _⟩, .sc (.string s), some n =>
    if 0 ≤ n then match s[n.toNat]? with
      | some b => some (.sc (.int .u8 b.toNat))
      | none => none
    else none
  | _, _, _ => none

def loadV (P : Program) (t : TypeId) (h : Hp) : V → Option V
  | .ptr b off => match h[b]? with
    | some (some B) => partV P t (B.cells.drop off)
    | _ => none
  | .eptr es i off => match es[i]? with
    | some e => partV P t (e.cells.drop off)
    | none => none
  | _ => none

def storeV (P : Program) (t : TypeId) (h : Hp) (a x : V) : Option Hp :=
  match a, tiOf P t with
  | .ptr b off, some d => match h[b]? with
    | some (some B) => if x.flatOk = true ∧ x.cells.length = d.size ∧ off + d.size ≤ B.cells.length then some (h.set b (some ⟨B.e, splice B.cells off x.cells⟩)) else none
    | _ => none
  | _, _ => none

def asLo (lo : Option V) : Option Int := match lo with
  | none => some 0
  | some v => asIdx v
def asHi (hi : Option V) (len : Nat) : Option Int := match hi with
  | none => some len
  | some v => asIdx v

def sliceV (P : Program) (t : TypeId) (h : Hp) (x : V) (lo hi : Option V) : Option V :=
  match tiOf P t with
  | some ⟨.slice e, _, _, _⟩ =>
    match tiOf P e with
    | none => none
    | some d =>
      match x with
      | .row nil k es => match asLo lo, asHi hi es.length with
        | some l, some u => if k = d.size ∧ 0 ≤ l ∧ l ≤ u ∧ u ≤ es.length then some (.row nil k ((es.take u.toNat).drop l.toNat)) else none
        | _, _ => none
      | .sl b off n k ag => match asLo lo, asHi hi n with
        | some l, some u =>
          if k = d.size ∧ 0 ≤ l ∧ l ≤ u ∧ u ≤ n then
            (if l = 0 then some (.sl b off u.toNat k ag) else if l < u then some (.sl b (off + l.toNat * k) (u.toNat - l.toNat) k ag) else some (.row (some false) k []))
          else none
        | _, _ => none
      | _ => none
  | some ⟨.string, _, _, _⟩ =>
    match x with
    | .sc (.string s) => match asLo lo, asHi hi s.size with
      | some l, some u => if 0 ≤ l ∧ l ≤ u ∧ u ≤ s.size then some (.sc (.string (s.extract l.toNat u.toNat))) else none
      | _, _ => none
    | _ => none
  | some ⟨.array n e, _, _, _⟩ =>
    match tiOf P e, x, asLo lo, asHi hi n with
    | some d, .ptr b off, some l, some u => match h[b]? with
      | some (some B) =>
        if 0 < d.size ∧ n ≤ lim ∧ 0 ≤ l ∧ l < u ∧ u ≤ n ∧ off + n * d.size ≤ B.cells.length then some (.sl b (off + l.toNat * d.size) (u.toNat - l.toNat) d.size (isAggD d.desc)) else none
      | _ => none
    | some d, .eptr es i off, some l, some u => match es[i]? with
      | some e => if d.size = 1 ∧ isAggD d.desc = false ∧ 0 ≤ l ∧ l < u ∧ u ≤ n ∧ off + n ≤ e.cells.length then some (.row (some false) 1 ((e.cells.drop (off + l.toNat)).take (u.toNat - l.toNat))) else none
      | none => none
    | _, _, _, _ => none
  | _ => none

/-- The pointer to the array that a slice begins with. -/
def arrPV (P : Program) (t : TypeId) (x : V) : Option V :=
  match tiOf P t, x with
  | some ⟨.array n _, _, _, _⟩, .row _ k es => if k = 1 ∧ 0 < n ∧ n ≤ es.length ∧ es.all V.one = true then some (.eptr [.agg (es.take n)] 0 0) else none
  | some ⟨.array n _, _, _, _⟩, .sl b off m _ _ => if 0 < n ∧ n ≤ m then some (.ptr b off) else none
  | _, _ => none

def lenV (P : Program) (t : TypeId) : V → Option V
  | .row _ _ es => match tiOf P t with
    | some ⟨.slice _, _, _, _⟩ => some (.sc (.int .i64 es.length))
    | _ => none
  | .sl _ _ n _ _ => match tiOf P t with
    | some ⟨.slice _, _, _, _⟩ => some (.sc (.int .i64 n))
    | _ => none
  | .sc (.string s) => match tiOf P t with
    | some ⟨.string, _, _, _⟩ => some (.sc (.int .i64 s.size))
    | _ => none
  | _ => none

/-- The places of a struct's fields. -/
def placesOf (P : Program) (t : TypeId) : Option (Array (Nat × Nat)) :=
  match tiOf P t with
  | some ⟨.struct fields, _, _, _⟩ => evalPure P (fields.mapM fun f => do pure (f.offset, ← sizeOf f.type))
  | _ => none
def fillV (place : Nat → Option (Nat × Nat)) (cells : List V) : List (Nat × V) → Option (List V)
  | [] => some cells
  | (i, x) :: rest =>
    match place i with
    | none => none
    | some (off, size) => if x.flatOk = true ∧ x.cells.length = size ∧ off + size ≤ cells.length then fillV place (splice cells off x.cells) rest else none
def buildV (P : Program) (t : TypeId) (parts : List (Nat × V)) : Option V :=
  match tiOf P t with
  | some ⟨.struct _, _, _, z⟩ =>
    match placesOf P t with
    | some places => (fillV (places[·]?) (z.cells.toList.map ofCell) parts).map .agg
    | none => none
  | some ⟨.array _ e, _, _, z⟩ =>
    match tiOf P e with
    | some d => (fillV (fun i => some (i * d.size, d.size)) (z.cells.toList.map ofCell) parts).map .agg
    | none => none
  | _ => none
def buildSliceV (P : Program) (t : TypeId) (len : Nat) (parts : List (Nat × V)) (h : Hp) : Option (V × Hp) :=
  match tiOf P t with
  | some ⟨.slice e, _, _, _⟩ =>
    match tiOf P e with
    | some d =>
      if len * d.size ≤ 2 ^ 24 ∧ 0 < len ∧ 0 < d.size then
        match fillV (fun i => some (i * d.size, d.size)) (((Array.range (len * d.size)).map (d.zero.cells[· % d.zero.cells.size]!)).toList.map ofCell) parts with
        | some cells => if cells.all V.one = true ∧ cells.length = len * d.size then some (.sl h.length 0 len d.size (isAggD d.desc), h ++ [some ⟨e, cells⟩]) else none
        | none => none
      else none
    | none => none
  | _ => none
def makeV (P : Program) (t : TypeId) (l c : V) (h : Hp) : Option (V × Hp) :=
  match tiOf P t, l, c with
  | some ⟨.slice e, _, _, _⟩, .sc (.int .i64 n), .sc (.int .i64 m) =>
    match tiOf P e with
    | some d =>
      if 0 ≤ n ∧ n ≤ m ∧ m.toNat * d.bytes ≤ lim ∧ 1 ≤ d.bytes ∧ 0 < d.size ∧ d.zero.cells.size = d.size ∧ (d.zero.cells.toList.map ofCell).all V.one = true then
        some (.sl h.length 0 n.toNat d.size (isAggD d.desc), h ++ [some ⟨e, (List.replicate m.toNat (d.zero.cells.toList.map ofCell)).flatten⟩])
      else none
    | none => none
  | _, _, _ => none

/-- The source of an append or a copy. -/
def srcV (h : Hp) (k : Nat) : V → Option (List V × Nat)
  | .row _ k' es => if k' = k ∨ es = [] then some (es.flatMap V.cells, es.length) else none
  | .sl b off m k' _ => match h[b]? with
    | some (some B) => if k' = k ∧ off + m * k ≤ B.cells.length then some ((B.cells.drop off).take (m * k), m) else none
    | _ => none
  | _ => none

def appendV (P : Program) (t t' : TypeId) (x y : V) (h : Hp) : Option (V × Hp) :=
  if t ≠ t' then none else
  match tiOf P t with
  | some ⟨.slice e, _, _, _⟩ =>
    match tiOf P e with
    | none => none
    | some d =>
      if d.zero.cells.size = d.size ∧ 0 < d.size ∧ 1 ≤ d.bytes then
        match srcV h d.size y with
        | none => none
        | some (news, m) =>
          match x with
          | .row (some true) _ [] => if m * d.bytes ≤ lim then some (.sl (h.length + 1) 0 m d.size (isAggD d.desc), h ++ [none] ++ [some ⟨e, news⟩]) else none
          | .sl b 0 n k ag => match h[b]? with
            | some (some B) => if k = d.size ∧ B.e = e ∧ n * k ≤ B.cells.length ∧ (n + m) * d.bytes ≤ lim then
                some (.sl h.length 0 (n + m) k ag, h.set b none ++ [some ⟨e, B.cells.take (n * k) ++ news⟩]) else none
            | _ => none
          | _ => none
      else none
  | _ => none

def copyV (P : Program) (t : TypeId) (x y : V) (h : Hp) : Option (V × Hp) :=
  match tiOf P t with
  | some ⟨.slice e, _, _, _⟩ =>
    match tiOf P e with
    | none => none
    | some d =>
      match x, srcV h d.size y with
      | .sl b off n k _, some (news, m) => match h[b]? with
        | some (some B) => if k = d.size ∧ 0 < k ∧ off + n * k ≤ B.cells.length then
            some (.sc (.int .i64 (min m n : Nat)), h.set b (some ⟨B.e, splice B.cells off (news.take (min m n * k))⟩)) else none
        | _ => none
      | _, _ => none
  | _ => none
end Go.Vm
