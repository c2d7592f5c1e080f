import Derived.Test.YtbjiaiobpbpjoaaVmMap
set_option linter.unusedSimpArgs false
set_option linter.unusedVariables false
namespace Go.Vm
open Go

/-- A call of function f: by its body, or by the model's own entry. -/
def Invokes (P : Program) (f : FuncId) (vs : Array Value) (w : World) (R : Value → World → Prop) : Prop :=
  ((callFunc f vs).run P w = .ok (.enter f vs) w ∧ Calls P f vs w (fun e w' => ∃ v, e = .returned v ∧ R v w')) ∨
  (∃ v w', (callFunc f vs).run P w = .ok (.value v) w' ∧ R v w')

/-- The contract: from the local blocks h and the arguments to the result and the blocks behind the call. -/
def Fn (P : Program) (f : FuncId) (h : Hp) (args : List V) (r : V) (h' : Hp) : Prop :=
  ∀ (A : Nat → Prop) (M : List (Option Nat)) (w : World) (vs : List Value), HR A M h w → VCells (Xs A M h) M w args vs →
    Invokes P f vs.toArray w (fun v w' => ∃ M', Grow A M h w M' h' w' ∧ VR (Xs A M' h') M' w' r v)

abbrev Orc := FuncId → Hp → List V → Option (V × Hp)
def OrcOk (P : Program) (O : Orc) : Prop := ∀ f h args r h', O f h args = some (r, h') → Fn P f h args r h'

def evs (s : List V) (xs : List Operand) : Option (List V) := xs.mapM (ev s)
def optV (s : List V) : Option Operand → Option (Option V)
  | none => some none
  | some x => (ev s x).map some
def partsV (s : List V) (ps : List (Nat × Operand)) : Option (List (Nat × V)) := ps.mapM fun p => (ev s p.2).map fun v => (p.1, v)

def allocV (P : Program) (e : TypeId) (h : Hp) : Option (V × Hp) :=
  match tiOf P e with
  | some d => if (d.zero.cells.toList.map ofCell).all V.one then some (.ptr h.length 0, h ++ [some ⟨e, d.zero.cells.toList.map ofCell⟩]) else none
  | none => none
def boxV (e : TypeId) (x : V) (h : Hp) : Option (V × Hp) :=
  if x.flatOk then some (.ptr h.length 0, h ++ [some ⟨e, x.cells⟩]) else none
def nilCheckV : V → Option V
  | .ptr b off => some (.ptr b off)
  | .eptr es i off => some (.eptr es i off)
  | _ => none
def binV (P : Program) (op : BinOp) (t : TypeId) (xo yo : Operand) (x y : V) : Option V :=
  match toVal x, toVal y with
  | some a, some b => pureV P (do eqGuard op t xo yo a b; binOp op t a b)
  | _, _ => none
def unV (P : Program) (op : UnOp) (x : V) : Option V :=
  match toVal x with
  | some a => pureV P (Op.unary op a)
  | none => none
/-- The text of bytes. -/
def strOf (ns : List Int) : ByteArray := ns.foldl (fun r n => r.push (UInt8.ofNat n.toNat)) ByteArray.empty
def cellInts : List V → Option (List Int)
  | [] => some []
  | .sc (.int .u8 n) :: cs => (cellInts cs).map (n :: ·)
  | _ => none
def bytesStrV (P : Program) (h : Hp) (a b : TypeId) (x : V) : Option V :=
  match tiOf P a, tiOf P b with
  | some ⟨.slice e, _, _, _⟩, some ⟨.string, _, _, _⟩ => match tiOf P e with
    | some ⟨.int .u8, _, _, _⟩ => match srcV h 1 x with
      | some (cells, _) => (cellInts cells).map fun ns => .sc (.string (strOf ns))
      | none => none
    | _ => none
  | _, _ => none
def convV (P : Program) (h : Hp) (a b : TypeId) (x : V) : Option V :=
  match bytesStrV P h a b x with
  | some v => some v
  | none => match toVal x with
    | some v => pureV P (convert a b v)
    | none => none
def minV (P : Program) (ts : Array TypeId) (t : TypeId) (xs : List V) (mx : Bool) : Option V :=
  match xs.mapM cellVal with
  | some vs => pureV P (if mx then Builtin.max_ ts t vs.toArray else Builtin.min_ ts t vs.toArray)
  | none => none
def extractV (x : V) (i : Nat) : Option V :=
  match x with
  | .tup vs => vs[i]?
  | _ => none

def callV (P : Program) (O : Orc) (c : Call) (ty : TypeId) (s : List V) (h : Hp) : Option (V × Hp) :=
  match evs s c.args.toList with
  | none => none
  | some xs =>
    match c.callee, c.argTypes.toList, xs with
    | .builtin .len, [t], [x] => (lenV P t x).map (·, h)
    | .builtin .append, [t, t'], [x, y] => appendV P t t' x y h
    | .builtin .copy, [t, _], [x, y] => copyV P t x y h
    | .builtin .min, _, _ => (minV P c.argTypes ty xs false).map (·, h)
    | .builtin .max, _, _ => (minV P c.argTypes ty xs true).map (·, h)
    | .value (.func f), _, _ => O f h xs
    | _, _, _ => none

def absOp (P : Program) (O : Orc) (o : Oper) (s : List V) (h : Hp) : Option (V × Hp) :=
  match o.op with
  | .move x => (ev s x).map (·, h)
  | .assign x => (ev s x).map (·, h)
  | .pick c a b => match ev s c with
    | some (.sc (.bool true)) => (ev s a).map (·, h)
    | some (.sc (.bool false)) => (ev s b).map (·, h)
    | _ => none
  | .alloc e => allocV P e h
  | .box e x => (ev s x).bind fun x => boxV e x h
  | .build t parts => (partsV s parts.toList).bind fun ps => (buildV P t ps).map (·, h)
  | .buildSlice t len parts => (partsV s parts.toList).bind fun ps => buildSliceV P t len ps h
  | .load t a => (ev s a).bind fun a => (loadV P t h a).map (·, h)
  | .store t a x => (ev s a).bind fun a => (ev s x).bind fun x => (storeV P t h a x).map (.sc undef, ·)
  | .nilCheck x => (ev s x).bind fun x => (nilCheckV x).map (·, h)
  | .binOp op t x y _ => (ev s x).bind fun a => (ev s y).bind fun b => (binV P op t x y a b).map (·, h)
  | .unOp op _ x => (ev s x).bind fun a => (unV P op a).map (·, h)
  | .convert a b x => (ev s x).bind fun x => (convV P h a b x).map (·, h)
  | .makeSlice t l c => (ev s l).bind fun l => (ev s c).bind fun c => makeV P t l c h
  | .slice t x lo hi none => (ev s x).bind fun x => (optV s lo).bind fun lo => (optV s hi).bind fun hi => (sliceV P t h x lo hi).map (·, h)
  | .fieldAddr t x f => (ev s x).bind fun x => (fieldAtV P t x f).map (·, h)
  | .field t x f => (ev s x).bind fun x => (fieldV P t x f).map (·, h)
  | .indexAddr t x i => (ev s x).bind fun x => (ev s i).bind fun i => (indexAtV P t x i).map (·, h)
  | .index t x i => (ev s x).bind fun x => (ev s i).bind fun i => (indexV P t x i).map (·, h)
  | .extract x i => (ev s x).bind fun x => (extractV x i).map (·, h)
  | .call c => callV P O c o.type s h
  | .sliceToArrayPointer t x => (ev s x).bind fun x => (arrPV P t x).map (·, h)
  | .makeMap t none => makeMapV P t h
  | .lookup t x k ok => (ev s x).bind fun x => (ev s k).bind fun k => (lookupV P t h x k ok).map (·, h)
  | .mapUpdate t x k y => (ev s x).bind fun x => (ev s k).bind fun k => (ev s y).bind fun y => (updV P t h x k y).map (.sc undef, ·)
  | _ => none

/-- The slots of a frame. -/
structure SR (X : Nat → Prop) (M : List (Option Nat)) (w : World) (s : List V) (a : Act) : Prop where
  len : s.length = a.tmps.size
  val : ∀ (t : Nat) (x : V), s[t]? = some x → VR X M w x (a.tmps.getD t undef)

def putV (s : List V) (d : Option Tmp) (x : V) : List V :=
  match d with
  | some t => s.set t x
  | none => s

section
variable {P : Program} {O : Orc} {A : Nat → Prop} {M M' : List (Option Nat)} {h h' : Hp} {w w' : World} {s : List V} {a : Act}

theorem SR.keep (G : Grow A M h w M' h' w') (S : SR (Xs A M h) M w s a) : SR (Xs A M' h') M' w' s a := ⟨S.len, fun t x hx => G.keep (S.val t x hx)⟩
theorem SR.put {X : Nat → Prop} (S : SR X M w s a) (d : Option Tmp) {x : V} {v : Value} (hx : VR X M w x v) : SR X M w (putV s d x) (a.put d v) := by
  cases d with
  | none => exact S
  | some t =>
    refine ⟨by simp [putV, Act.put, S.len], fun i y hy => ?_⟩
    simp only [putV] at hy
    rcases get_set hy with ⟨rfl, rfl⟩ | ⟨hne, hy'⟩
    · have hlt : i < a.tmps.size := by
        have := (List.getElem?_eq_some_iff.1 hy).1
        rw [← S.len]; simpa using this
      simp [Act.put, hlt, hx]
    · have := S.val i y hy'
      simp only [Act.put]
      rw [show (a.tmps.setIfInBounds t v).getD i undef = a.tmps.getD i undef by
        simp [Array.getD_eq_getD_getElem?, Array.getElem?_setIfInBounds_ne (Ne.symm hne)]]
      exact this

theorem ev_sound {X : Nat → Prop} (Gl : Globs X w) (S : SR X M w s a) {o : Operand} {x : V} (h : ev s o = some x) : VR X M w x (a.eval o) := by
  cases o with
  | tmp t => exact S.val t x h
  | const v => simp only [ev, Option.some.injEq] at h; subst h; exact VR_ofValue v
  | func f => simp only [ev, Option.some.injEq] at h; subst h; unfold VR; rfl
  | global g =>
    simp only [ev, Option.map_eq_some_iff] at h
    obtain ⟨e, he, rfl⟩ := h
    exact (Gl g e he).lift
theorem evs_sound {X : Nat → Prop} (Gl : Globs X w) (S : SR X M w s a) : ∀ {os : List Operand} {xs : List V}, evs s os = some xs → VCells X M w xs (os.map a.eval)
  | [], xs, h => by simp [evs] at h; subst h; unfold VCells; rfl
  | o :: os, xs, h => by
    simp only [evs, List.mapM_cons, Option.bind_eq_bind, Option.bind_eq_some_iff, Option.pure_def, Option.some.injEq] at h
    obtain ⟨x, hx, xs', hxs, rfl⟩ := h
    unfold VCells
    exact ⟨_, _, rfl, ev_sound Gl S hx, evs_sound Gl S hxs⟩
theorem optV_sound {X : Nat → Prop} (Gl : Globs X w) (S : SR X M w s a) {o : Option Operand} {x : Option V} (h : optV s o = some x) : OptR X M w x (o.map a.eval) := by
  cases o with
  | none => simp only [optV, Option.some.injEq] at h; subst h; exact .inl ⟨rfl, rfl⟩
  | some o =>
    simp only [optV, Option.map_eq_some_iff] at h
    obtain ⟨y, hy, rfl⟩ := h
    exact .inr ⟨y, _, rfl, rfl, ev_sound Gl S hy⟩
theorem partsV_sound {X : Nat → Prop} (Gl : Globs X w) (S : SR X M w s a) : ∀ {ps : List (Nat × Operand)} {xs : List (Nat × V)}, partsV s ps = some xs → partsRel X M w xs (ps.map fun p => (p.1, a.eval p.2))
  | [], xs, h => by simp [partsV] at h; subst h; exact ⟨rfl, by simp⟩
  | p :: ps, xs, h => by
    simp only [partsV, List.mapM_cons, Option.bind_eq_bind, Option.bind_eq_some_iff, Option.pure_def, Option.some.injEq, Option.map_eq_some_iff] at h
    obtain ⟨x, ⟨y, hy, rfl⟩, xs', hxs, rfl⟩ := h
    obtain ⟨h1, h2⟩ := partsV_sound Gl S hxs
    refine ⟨by simp [h1], fun j p' q hp hq => ?_⟩
    cases j with
    | zero => simp at hp hq; subst hp hq; exact ⟨rfl, ev_sound Gl S hy⟩
    | succ j => exact h2 j p' q (by simpa using hp) (by simpa using hq)

/-- What an operation must do. -/
def Does (P : Program) (o : Oper) (a : Act) (w : World) (A : Nat → Prop) (M : List (Option Nat)) (h : Hp) (r : V) (h' : Hp) : Prop :=
  ∀ (K : Act → World → Prop) (Q : Exit → Act → World → Prop),
    (∀ v w' M', Grow A M h w M' h' w' → VR (Xs A M' h') M' w' r v → K (a.put o.dst v) w') → o.wp P a w K Q

theorem Does.value {o : Oper} {r : V} {sem : Sem Value} (he : execOp a.eval o = (do pure (.value (← sem)))) (hx : ∃ v w' M', sem.run P w = .ok v w' ∧ Grow A M h w M' h' w' ∧ VR (Xs A M' h') M' w' r v) : Does P o a w A M h r h' := by
  intro K Q hK
  obtain ⟨v, w', M', hr, hG, hv⟩ := hx
  unfold Oper.wp
  rw [he, Sem.run_bind, hr, Result.andThen_ok]
  exact hK v w' M' hG hv
theorem Does.same (H : HR A M h w) {o : Oper} {r : V} {sem : Sem Value} (he : execOp a.eval o = (do pure (.value (← sem)))) (hx : ∃ v, sem.run P w = .ok v w ∧ VR (Xs A M h) M w r v) : Does P o a w A M h r h :=
  Does.value he (let ⟨v, h1, h2⟩ := hx; ⟨v, w, M, h1, Grow.refl H, h2⟩)
theorem Does.pureV (H : HR A M h w) {o : Oper} {r : V} {sem : Sem Value} (he : execOp a.eval o = (do pure (.value (← sem)))) (hx : Vm.pureV P sem = some r) : Does P o a w A M h r h := by
  refine Does.same H he ?_
  simp only [Vm.pureV, Option.map_eq_some_iff] at hx
  obtain ⟨v, hv, rfl⟩ := hx
  exact ⟨v, evalPure_run _ hv w, VR_ofValue v⟩
end
end Go.Vm
