import Derived.Test.YtbjiaiobpbpjoaaVmOp
import Derived.StillTail
set_option linter.unusedSimpArgs false
set_option linter.unusedVariables false
namespace Go.Vm
open Go

/-! ### Regions that draw their order -/
/-- Operations that leave the blocks alone. -/
def stillOp (F : FuncId → Bool) (o : Oper) : Bool :=
  match o.op with
  | .move _ | .assign _ | .pick _ _ _ | .build _ _ | .load _ _ | .nilCheck _ | .binOp _ _ _ _ _ | .unOp _ _ _ | .convert _ _ _ | .slice _ _ _ _ _
  | .fieldAddr _ _ _ | .field _ _ _ | .indexAddr _ _ _ | .index _ _ _ | .extract _ _ | .sliceToArrayPointer _ _ | .lookup _ _ _ _ => true
  | .call c => match c.callee with
    | .builtin .len | .builtin .min | .builtin .max => true
    | .value (.func f) => F f
    | _ => false
  | _ => false

/-- Functions that leave the blocks alone. -/
def Stills (O : Orc) (F : FuncId → Bool) : Prop := ∀ f h args r h', F f = true → O f h args = some (r, h') → h' = h

section
variable {P : Program} {O : Orc} {F : FuncId → Bool} {s : List V} {h h' : Hp}

theorem still_same (hF : Stills O F) {o : Oper} (hs : stillOp F o = true) {r : V} (hr : absOp P O o s h = some (r, h')) : h' = h := by
  obtain ⟨dst, op, type, pos, after, guard⟩ := o
  cases op <;> simp only [stillOp, Bool.false_eq_true] at hs <;> simp only [absOp] at hr
  case pick c x y =>
    split at hr
    · simp only [Option.map_eq_some_iff, Prod.mk.injEq] at hr
      obtain ⟨_, _, _, rfl⟩ := hr; rfl
    · simp only [Option.map_eq_some_iff, Prod.mk.injEq] at hr
      obtain ⟨_, _, _, rfl⟩ := hr; rfl
    · cases hr
  case slice t x lo hi mx =>
    cases mx with
    | some m => cases hr
    | none =>
      simp only [Option.bind_eq_some_iff, Option.map_eq_some_iff, Prod.mk.injEq] at hr
      obtain ⟨_, _, _, _, _, _, _, _, _, rfl⟩ := hr; rfl
  case call c =>
    obtain ⟨callee, args, argTypes⟩ := c
    simp only [callV] at hr
    simp only at hs
    split at hr
    · cases hr
    · split at hr
      all_goals first
        | (simp only [Option.map_eq_some_iff, Prod.mk.injEq] at hr; obtain ⟨_, _, _, rfl⟩ := hr; rfl)
        | (simp at hs; done)
        | exact hF _ _ _ _ _ hs hr
        | cases hr
  all_goals
    simp only [Option.bind_eq_some_iff, Option.map_eq_some_iff, Prod.mk.injEq] at hr
    first
      | (obtain ⟨_, _, _, rfl⟩ := hr; rfl)
      | (obtain ⟨_, _, _, _, _, rfl⟩ := hr; rfl)
      | (obtain ⟨_, _, _, _, _, _, _, rfl⟩ := hr; rfl)

theorem mapM_congr {α β : Type} {f g : α → Option β} : ∀ {l : List α}, (∀ x ∈ l, f x = g x) → l.mapM f = l.mapM g
  | [], _ => rfl
  | x :: l, h => by simp only [List.mapM_cons]; rw [h x (by simp), mapM_congr (fun y hy => h y (by simp [hy]))]

theorem absOp_congr {s' : List V} (o : Oper) (hx : ∀ x ∈ o.op.operands, ev s x = ev s' x) : absOp P O o s h = absOp P O o s' h := by
  obtain ⟨dst, op, type, pos, after, guard⟩ := o
  simp only at hx
  cases op <;> simp only [absOp] <;> simp only [Op.operands] at hx
  case move x => rw [hx x (by simp)]
  case assign x => rw [hx x (by simp)]
  case pick c x y => rw [hx c (by simp), hx x (by simp), hx y (by simp)]
  case box e x => rw [hx x (by simp)]
  case build t parts =>
    have : partsV s parts.toList = partsV s' parts.toList := mapM_congr (fun p hp => by
      rw [hx p.2 (by simp only [List.mem_toArray, List.mem_map]; exact ⟨p, by simpa using hp, rfl⟩)])
    rw [this]
  case buildSlice t len parts =>
    have : partsV s parts.toList = partsV s' parts.toList := mapM_congr (fun p hp => by
      rw [hx p.2 (by simp only [List.mem_toArray, List.mem_map]; exact ⟨p, by simpa using hp, rfl⟩)])
    rw [this]
  case load t x => rw [hx x (by simp)]
  case store t x y => rw [hx x (by simp), hx y (by simp)]
  case nilCheck x => rw [hx x (by simp)]
  case binOp op t x y u => rw [hx x (by simp), hx y (by simp)]
  case unOp op t x => rw [hx x (by simp)]
  case convert t u x => rw [hx x (by simp)]
  case makeSlice t x y => rw [hx x (by simp), hx y (by simp)]
  case slice t x lo hi mx =>
    cases mx with
    | some m => rfl
    | none =>
      simp only
      have h1 : optV s lo = optV s' lo := by cases lo with
        | none => rfl
        | some l => simp only [optV]; rw [hx l (by simp)]
      have h2 : optV s hi = optV s' hi := by cases hi with
        | none => rfl
        | some l => simp only [optV]; rw [hx l (by simp)]
      rw [hx x (by simp), h1, h2]
  case fieldAddr t x f => rw [hx x (by simp)]
  case field t x f => rw [hx x (by simp)]
  case indexAddr t x i => rw [hx x (by simp), hx i (by simp)]
  case index t x i => rw [hx x (by simp), hx i (by simp)]
  case extract x i => rw [hx x (by simp)]
  case sliceToArrayPointer t x => rw [hx x (by simp)]
  case makeMap t r => cases r <;> rfl
  case lookup t x k ok => rw [hx x (by simp), hx k (by simp)]
  case mapUpdate t x k y => rw [hx x (by simp), hx k (by simp), hx y (by simp)]
  case call c =>
    unfold callV
    have : evs s c.args.toList = evs s' c.args.toList := mapM_congr (fun x hx' => hx x (by
      simp only [Call.operands, Array.mem_append]
      exact .inr (by simpa using hx')))
    rw [this]

theorem ev_put {d : Option Tmp} {v : V} {x : Operand} (hd : ∀ t, d = some t → x ≠ .tmp t) : ev (putV s d v) x = ev s x := by
  cases d with
  | none => rfl
  | some t =>
    cases x with
    | tmp u =>
      have : u ≠ t := fun e => hd t rfl (by rw [e])
      simp only [ev, putV]
      rw [List.getElem?_set_ne (Ne.symm this)]
    | _ => rfl

theorem absOp_put {ops : Array Oper} (o : Oper) (d : Option Tmp) (v : V) (hd : ∀ t, d = some t → t ∉ o.looksAt ops) : absOp P O o (putV s d v) h = absOp P O o s h :=
  absOp_congr o fun x hx => ev_put fun t ht e => hd t ht (by
    subst e
    exact List.mem_append_left _ (List.mem_filterMap.2 ⟨.tmp t, by simpa using hx, rfl⟩))

theorem wantedV_put {ops : Array Oper} (o : Oper) (d : Option Tmp) (v : V) (hd : ∀ t, d = some t → t ∉ o.looksAt ops) : wantedV ops o (putV s d v) = wantedV ops o s := by
  unfold wantedV
  cases hg : o.guard with
  | none => rfl
  | some p =>
    obtain ⟨j, want⟩ := p
    simp only
    cases hj : (ops[j]?).bind (·.dst) with
    | none => rfl
    | some t =>
      simp only
      have hne : ∀ u, d = some u → u ≠ t := fun u hu e => hd u hu (by
        subst e
        refine List.mem_append_right _ ?_
        rw [hg]
        simp [hj])
      have : (putV s d v)[t]? = s[t]? := by
        cases d with
        | none => rfl
        | some u => simp only [putV]; rw [List.getElem?_set_ne (hne u rfl)]
      rw [this]

def stepVal (P : Program) (O : Orc) (ops : Array Oper) (o : Oper) (s : List V) (h : Hp) : Option (V × Hp) :=
  match wantedV ops o s with
  | some true => absOp P O o s h
  | some false => some (.sc undef, h)
  | none => none
theorem absStep_eq (ops : Array Oper) (o : Oper) : absStep P O ops o s h = (stepVal P O ops o s h).map fun p => (putV s o.dst p.1, p.2) := by
  unfold absStep stepVal
  cases wantedV ops o s with
  | none => rfl
  | some b => cases b <;> rfl
theorem stepVal_put {ops : Array Oper} (o : Oper) (d : Option Tmp) (v : V) (hd : ∀ t, d = some t → t ∉ o.looksAt ops) : stepVal P O ops o (putV s d v) h = stepVal P O ops o s h := by
  unfold stepVal; rw [wantedV_put o d v hd, absOp_put o d v hd]
theorem stepVal_same (hF : Stills O F) {ops : Array Oper} {o : Oper} (hs : stillOp F o = true) {r : V} (hr : stepVal P O ops o s h = some (r, h')) : h' = h := by
  unfold stepVal at hr
  split at hr
  · exact still_same hF hs hr
  · simp only [Option.some.injEq, Prod.mk.injEq] at hr; exact hr.2.symm
  · cases hr
theorem putV_comm (s : List V) {d e : Option Tmp} (x y : V) (hde : ∀ t, d = some t → e ≠ some t) : putV (putV s d x) e y = putV (putV s e y) d x := by
  cases d with
  | none => rfl
  | some t =>
    cases e with
    | none => rfl
    | some u =>
      have : t ≠ u := fun h => hde t rfl (by rw [h])
      simp only [putV]
      exact List.set_comm _ _ this

/-- Operations that make one block and change none. -/
def allocOp (o : Oper) : Bool :=
  match o.op with
  | .alloc _ | .box _ _ | .buildSlice _ _ _ | .makeSlice _ _ _ => true
  | _ => false
def still0 (o : Oper) : Bool := stillOp (fun _ => false) o

theorem alloc_form {o : Oper} (ha : allocOp o = true) {r : V} (hr : absOp P O o s h = some (r, h')) : ∃ B, h' = h ++ [some B] := by
  obtain ⟨dst, op, type, pos, after, guard⟩ := o
  cases op <;> simp only [allocOp, Bool.false_eq_true] at ha <;> simp only [absOp] at hr
  case alloc e =>
    unfold allocV at hr
    split at hr
    · split at hr
      · simp only [Option.some.injEq, Prod.mk.injEq] at hr; exact ⟨_, hr.2.symm⟩
      · cases hr
    · cases hr
  case box e x =>
    simp only [Option.bind_eq_some_iff] at hr
    obtain ⟨y, _, hr⟩ := hr
    unfold boxV at hr
    split at hr
    · simp only [Option.some.injEq, Prod.mk.injEq] at hr; exact ⟨_, hr.2.symm⟩
    · cases hr
  case buildSlice t len parts =>
    simp only [Option.bind_eq_some_iff] at hr
    obtain ⟨y, _, hr⟩ := hr
    unfold buildSliceV at hr
    split at hr
    · split at hr
      · split at hr
        · split at hr
          · split at hr
            · simp only [Option.some.injEq, Prod.mk.injEq] at hr; exact ⟨_, hr.2.symm⟩
            · cases hr
          · cases hr
        · cases hr
      · cases hr
    · cases hr
  case makeSlice t l c =>
    simp only [Option.bind_eq_some_iff] at hr
    obtain ⟨y, _, z, _, hr⟩ := hr
    unfold makeV at hr
    split at hr
    · split at hr
      · split at hr
        · simp only [Option.some.injEq, Prod.mk.injEq] at hr; exact ⟨_, hr.2.symm⟩
        · cases hr
      · cases hr
    · cases hr

/-- What the pointers among the operands lead to is there. -/
def inScope (n : Nat) : V → Prop
  | .ptr b _ => b < n
  | .sl b _ _ _ _ => b < n
  | .mp b => b < n
  | _ => True
def Scoped (s : List V) (o : Oper) (n : Nat) : Prop := ∀ y ∈ o.op.operands, ∀ (z : V), ev s y = some z → inScope n z

theorem get_old {b : Nat} {x : Option Blk} (hb : b < h.length) : (h ++ [x])[b]? = h[b]? := List.getElem?_append_left hb
theorem loadV_app {t : TypeId} {a : V} {x : Option Blk} (hs : ∀ b off, a = .ptr b off → b < h.length) : loadV P t (h ++ [x]) a = loadV P t h a := by
  cases a <;> simp only [loadV]
  case ptr b off => rw [get_old (hs b off rfl)]
theorem sliceV_app {t : TypeId} {a : V} {lo hi : Option V} {x : Option Blk} (hs : ∀ b off, a = .ptr b off → b < h.length) : sliceV P t (h ++ [x]) a lo hi = sliceV P t h a lo hi := by
  unfold sliceV
  cases tiOf P t with
  | none => rfl
  | some d =>
    obtain ⟨desc, sz, by_, z⟩ := d
    cases desc <;> first | rfl | skip
    case array n e' =>
      simp only
      cases tiOf P e' <;> cases a <;> cases asLo lo <;> cases asHi hi n <;> first | rfl | (simp only [get_old (hs _ _ rfl)])

theorem srcV_app {k : Nat} {a : V} {x : Option Blk} (hs : ∀ b off n k ag, a = .sl b off n k ag → b < h.length) : srcV (h ++ [x]) k a = srcV h k a := by
  cases a <;> simp only [srcV]
  case sl b off n k ag => rw [get_old (hs b off n k ag rfl)]
theorem convV_app {t u : TypeId} {a : V} {x : Option Blk} (hs : ∀ b off n k ag, a = .sl b off n k ag → b < h.length) : convV P (h ++ [x]) t u a = convV P h t u a := by
  have : bytesStrV P (h ++ [x]) t u a = bytesStrV P h t u a := by unfold bytesStrV; rw [srcV_app hs]
  unfold convV; rw [this]
theorem lookupV_app {t : TypeId} {a k : V} {ok : Bool} {x : Option Blk} (hs : ∀ b, a = .mp b → b < h.length) : lookupV P t (h ++ [x]) a k ok = lookupV P t h a k ok := by
  have : mapAt P t (h ++ [x]) a = mapAt P t h a := by
    unfold mapAt
    cases mapTy P t with
    | none => rfl
    | some m => cases a <;> first | rfl | (simp only [get_old (hs _ rfl)])
  unfold lookupV; rw [this]
theorem still0_app {o : Oper} (hs : still0 o = true) {x : Option Blk} (hsc : Scoped s o h.length) : absOp P O o s (h ++ [x]) = (absOp P O o s h).map fun p => (p.1, h ++ [x]) := by
  obtain ⟨dst, op, type, pos, after, guard⟩ := o
  unfold Scoped at hsc
  cases op <;> simp only [still0, stillOp, Bool.false_eq_true] at hs <;> simp only [absOp] <;> simp only [Op.operands] at hsc
  case load t a =>
    cases ha : ev s a with
    | none => rfl
    | some y =>
      simp only [Option.bind_some]
      rw [loadV_app (fun b off hy => by have := hsc a (by simp) y ha; rw [hy] at this; exact this)]
      cases loadV P t h y <;> rfl
  case slice t a lo hi mx =>
    cases mx with
    | some m => rfl
    | none =>
      simp only
      cases ha : ev s a with
      | none => rfl
      | some y =>
        simp only [Option.bind_some]
        cases optV s lo with
        | none => rfl
        | some l =>
          simp only [Option.bind_some]
          cases optV s hi with
          | none => rfl
          | some u =>
            simp only [Option.bind_some]
            rw [sliceV_app (fun b off hy => by have := hsc a (by simp) y ha; rw [hy] at this; exact this)]
            cases sliceV P t h y l u <;> rfl
  case call c =>
    obtain ⟨callee, args, argTypes⟩ := c
    simp only at hs
    simp only [callV]
    cases evs s args.toList with
    | none => rfl
    | some xs =>
      simp only
      split at hs
      · split <;> first | (simp only [Option.map_map]; rfl) | rfl | simp_all
      · simp only [Option.map_map]; rfl
      · simp only [Option.map_map]; rfl
      · cases hs
      · cases hs
  case lookup t a k ok =>
    cases ha : ev s a with
    | none => rfl
    | some y =>
      simp only [Option.bind_some]
      cases ev s k with
      | none => rfl
      | some z =>
        simp only [Option.bind_some]
        rw [lookupV_app (fun b hy => by have := hsc a (by simp) y ha; rw [hy] at this; exact this)]
        cases lookupV P t h y z ok <;> rfl
  case pick c x y =>
    cases ev s c with
    | none => rfl
    | some z =>
      split
      · cases ev s x <;> rfl
      · cases ev s y <;> rfl
      · rfl
  case move x => cases ev s x <;> rfl
  case assign x => cases ev s x <;> rfl
  case build t parts => cases partsV s parts.toList with
    | none => rfl
    | some ps => simp only [Option.bind_some]; cases buildV P t ps <;> rfl
  case nilCheck x => cases ev s x with
    | none => rfl
    | some y => simp only [Option.bind_some]; cases nilCheckV y <;> rfl
  case unOp op t x => cases ev s x with
    | none => rfl
    | some y => simp only [Option.bind_some]; cases unV P op y <;> rfl
  case convert t u z => cases hz : ev s z with
    | none => rfl
    | some y =>
      simp only [Option.bind_some]
      rw [convV_app (fun b off n k ag hy => by have := hsc z (by simp) y hz; rw [hy] at this; exact this)]
      cases convV P h t u y <;> rfl
  case fieldAddr t x f => cases ev s x with
    | none => rfl
    | some y => simp only [Option.bind_some]; cases fieldAtV P t y f <;> rfl
  case sliceToArrayPointer t x => cases ev s x with
    | none => rfl
    | some y => simp only [Option.bind_some]; cases arrPV P t y <;> rfl
  case field t x f => cases ev s x with
    | none => rfl
    | some y => simp only [Option.bind_some]; cases fieldV P t y f <;> rfl
  case extract x i => cases ev s x with
    | none => rfl
    | some y => simp only [Option.bind_some]; cases extractV y i <;> rfl
  case binOp op t x y u => cases ev s x with
    | none => rfl
    | some a => cases ev s y with
      | none => rfl
      | some b => simp only [Option.bind_some]; cases binV P op t x y a b <;> rfl
  case indexAddr t x y => cases ev s x with
    | none => rfl
    | some a => cases ev s y with
      | none => rfl
      | some b => simp only [Option.bind_some]; cases indexAtV P t a b <;> rfl
  case index t x y => cases ev s x with
    | none => rfl
    | some a => cases ev s y with
      | none => rfl
      | some b => simp only [Option.bind_some]; cases indexV P t a b <;> rfl

theorem stepVal_app {ops : Array Oper} {o : Oper} (hs : still0 o = true) {x : Option Blk} (hsc : Scoped s o h.length) : stepVal P O ops o s (h ++ [x]) = (stepVal P O ops o s h).map fun p => (p.1, h ++ [x]) := by
  unfold stepVal
  cases wantedV ops o s with
  | none => rfl
  | some b => cases b with
    | true => exact still0_app hs hsc
    | false => rfl
theorem stepVal_alloc {ops : Array Oper} {o : Oper} (ha : allocOp o = true) {r : V} (hr : stepVal P O ops o s h = some (r, h')) : h' = h ∨ ∃ B, h' = h ++ [some B] := by
  unfold stepVal at hr
  split at hr
  · exact .inr (alloc_form ha hr)
  · simp only [Option.some.injEq, Prod.mk.injEq] at hr; exact .inl hr.2.symm
  · cases hr

def pairOk (F : FuncId → Bool) (ops : Array Oper) (oj oi : Oper) : Bool :=
  oj.apart ops oi && ((stillOp F oj && stillOp F oi) || (allocOp oj && still0 oi) || (still0 oj && allocOp oi))

/-- Two operations that are apart, and of which one at most makes a block. -/
theorem step_comm (hF : Stills O F) {ops : Array Oper} {oj oi : Oper} (hp : pairOk F ops oj oi = true) (hsi : Scoped s oi h.length) (hsj : Scoped s oj h.length) {s1 s2 : List V} {h1 h2 : Hp}
    (e1 : absStep P O ops oj s h = some (s1, h1)) (e2 : absStep P O ops oi s1 h1 = some (s2, h2)) :
    ∃ s3 h3, absStep P O ops oi s h = some (s3, h3) ∧ absStep P O ops oj s3 h3 = some (s2, h2) := by
  simp only [pairOk, Bool.and_eq_true, Bool.or_eq_true] at hp
  obtain ⟨hap, hp⟩ := hp
  obtain ⟨a1, a2, a3⟩ := Oper.apart_spec hap
  rw [absStep_eq] at e1 e2
  simp only [Option.map_eq_some_iff, Prod.mk.injEq] at e1 e2
  obtain ⟨⟨v1, g1⟩, f1, rfl, rfl⟩ := e1
  obtain ⟨⟨v2, g2⟩, f2, rfl, rfl⟩ := e2
  simp only at f1 f2 ⊢
  rw [stepVal_put oi _ _ a1] at f2
  rcases hp with (⟨hj, hi⟩ | ⟨hj, hi⟩) | ⟨hj, hi⟩
  · obtain rfl := stepVal_same hF hj f1
    obtain rfl := stepVal_same hF hi f2
    refine ⟨putV s oi.dst v2, _, by rw [absStep_eq, f2]; rfl, ?_⟩
    rw [absStep_eq, stepVal_put oj _ _ a3, f1]
    simp only [Option.map_some]
    rw [putV_comm s v1 v2 a2]
  · rcases stepVal_alloc hj f1 with rfl | ⟨B, rfl⟩
    · obtain rfl : g2 = g1 := stepVal_same (F := fun _ => false) (fun _ _ _ _ _ hf => by cases hf) hi f2
      refine ⟨putV s oi.dst v2, _, by rw [absStep_eq, f2]; rfl, ?_⟩
      rw [absStep_eq, stepVal_put oj _ _ a3, f1]
      simp only [Option.map_some]
      rw [putV_comm s v1 v2 a2]
    · rw [stepVal_app hi hsi] at f2
      simp only [Option.map_eq_some_iff, Prod.mk.injEq] at f2
      obtain ⟨⟨v3, g3⟩, f3, rfl, rfl⟩ := f2
      obtain rfl : g3 = h := stepVal_same (F := fun _ => false) (fun _ _ _ _ _ hf => by cases hf) hi f3
      refine ⟨putV s oi.dst v3, g3, by rw [absStep_eq, f3]; rfl, ?_⟩
      rw [absStep_eq, stepVal_put oj _ _ a3, f1]
      simp only [Option.map_some]
      rw [putV_comm s v1 v3 a2]
  · obtain rfl : g1 = h := stepVal_same (F := fun _ => false) (fun _ _ _ _ _ hf => by cases hf) hj f1
    refine ⟨putV s oi.dst v2, g2, by rw [absStep_eq, f2]; rfl, ?_⟩
    rcases stepVal_alloc hi f2 with rfl | ⟨B, rfl⟩
    · rw [absStep_eq, stepVal_put oj _ _ a3, f1]
      simp only [Option.map_some]
      rw [putV_comm s v1 v2 a2]
    · rw [absStep_eq, stepVal_put oj _ _ a3, stepVal_app hj hsj, f1]
      simp only [Option.map_some]
      rw [putV_comm s v1 v2 a2]

/-- The run over a list of the operations' numbers. -/
def runIx (P : Program) (O : Orc) (ops : Array Oper) : List Nat → List V → Hp → Option (List V × Hp)
  | [], s, h => some (s, h)
  | i :: rest, s, h => match ops[i]? with
    | some o => (absStep P O ops o s h).bind fun p => runIx P O ops rest p.1 p.2
    | none => none

/-- The frame's pointers lead to blocks that are there. -/
def ScopedS (s : List V) (n : Nat) : Prop := ∀ (t : Nat) (z : V), s[t]? = some z → inScope n z
theorem inScope_ofValue (n : Nat) (v : Value) : inScope n (ofValue v) := by
  unfold ofValue
  split
  · trivial
  · unfold ofCell; split <;> trivial
theorem ScopedS.op (hs : ScopedS s h.length) (o : Oper) : Scoped s o h.length := fun y _ z hy => by
  cases y with
  | tmp t => exact hs t z hy
  | const v => simp only [ev, Option.some.injEq] at hy; subst hy; exact inScope_ofValue _ _
  | func f => simp only [ev, Option.some.injEq] at hy; subst hy; trivial
  | global g => simp only [ev, Option.map_eq_some_iff] at hy; obtain ⟨e, _, rfl⟩ := hy; trivial

theorem runIx_first (hF : Stills O F) {ops : Array Oper} {i : Nat} {oi : Oper} (hoi : ops[i]? = some oi) {s' : List V} : ∀ {pre post : List Nat} {s : List V} {h : Hp},
    (∀ j ∈ pre, ∀ oj, ops[j]? = some oj → pairOk F ops oj oi = true) → (∀ s1 h1 (l : List Nat), (∃ m, pre = l ++ m) → runIx P O ops l s h = some (s1, h1) → ScopedS s1 h1.length) →
    runIx P O ops (pre ++ i :: post) s h = some (s', h') → ∃ s1 h1, absStep P O ops oi s h = some (s1, h1) ∧ runIx P O ops (pre ++ post) s1 h1 = some (s', h')
  | [], post, s, h, _, _, hr => by
    simp only [List.nil_append, runIx, hoi, Option.bind_eq_some_iff] at hr
    obtain ⟨⟨s1, h1⟩, e1, e2⟩ := hr
    exact ⟨s1, h1, e1, e2⟩
  | j :: pre, post, s, h, hp, hsc, hr => by
    simp only [List.cons_append, runIx] at hr
    split at hr
    · rename_i oj hoj
      simp only [Option.bind_eq_some_iff] at hr
      obtain ⟨⟨s1, h1⟩, e1, e2⟩ := hr
      have hsc0 : ScopedS s h.length := hsc s h [] ⟨_, rfl⟩ rfl
      obtain ⟨s2, h2, e3, e4⟩ := runIx_first hF hoi (fun k hk => hp k (by simp [hk])) (fun s3 h3 l ⟨m, hm⟩ hl => hsc s3 h3 (j :: l) ⟨m, by rw [hm]; rfl⟩ (by
        simp only [runIx, hoj, e1, Option.bind_some]; exact hl)) e2
      obtain ⟨s3, h3, f1, f2⟩ := step_comm hF (hp j (by simp) oj hoj) (hsc0.op oi) (hsc0.op oj) e1 e3
      refine ⟨s3, h3, f1, ?_⟩
      simp only [List.cons_append, runIx, hoj, f2, Option.bind_some]
      exact e4
    · cases hr

/-- Which operations come before operation i, as far as the edges say. -/
def ancL (ops : Array Oper) (i : Nat) : Nat → List Nat → List Nat
  | 0, acc => acc
  | j + 1, acc => ancL ops i j (if acc.any (fun k => Region.waitsFor .any ops k j) then j :: acc else acc)

def drawOk (F : FuncId → Bool) (ops : Array Oper) : Bool :=
  (List.range ops.size).all fun i => match ops[i]? with
    | none => true
    | some oi => oi.after.all (fun e => !Region.binds .any e || decide (e.on < i)) &&
      (List.range i).all fun j => Region.waitsFor .any ops i j || (match ops[j]? with
        | some oj => pairOk F ops oj oi
        | none => true) || (ancL ops i i [i]).contains j

/-- A set of operations that is closed under the edges. -/
def Closed (ops : Array Oper) (listed : Array Bool) : Prop :=
  ∀ j oj, ops[j]? = some oj → listed.getD j false = true → ∀ e ∈ oj.after, Region.binds .any e = true → listed.getD e.on false = true

theorem ancL_listed {ops : Array Oper} {listed : Array Bool} (hc : Closed ops listed) {i : Nat} {oi : Oper} (hoi : ops[i]? = some oi) (hr : ∀ e ∈ oi.after, Region.binds .any e = true → listed.getD e.on false = true) :
    ∀ (n : Nat) (acc : List Nat), (∀ k ∈ acc, k = i ∨ listed.getD k false = true) → ∀ k ∈ ancL ops i n acc, k = i ∨ listed.getD k false = true
  | 0, acc, h, k, hk => h k hk
  | n + 1, acc, h, k, hk => by
    refine ancL_listed hc hoi hr n _ ?_ k hk
    intro m hm
    split at hm
    · rename_i hany
      rcases List.mem_cons.1 hm with rfl | hm
      · obtain ⟨k', hk', hw⟩ := List.any_eq_true.1 hany
        obtain ⟨oj, hoj, e, he, hb, hon⟩ := Region.waitsFor_spec hw
        rcases h k' hk' with rfl | hl
        · have : oj = oi := Option.some.inj (hoj.symm.trans hoi)
          subst this
          exact .inr (hon ▸ hr e he hb)
        · exact .inr (hon ▸ hc k' oj hoj hl e he hb)
      · exact h m hm
    · exact h m hm

def remOf (n : Nat) (listed : Array Bool) : List Nat := (List.range n).filter fun i => !(listed.getD i true)

theorem wpOp_exists {ops : Array Oper} {i : Nat} {K : Act → World → Prop} {a : Act} {w : World} (hh : wpOp P ops (fun _ _ _ => False) i K a w) : ∃ a' w', K a' w' := by
  unfold wpOp at hh
  split at hh
  · exact ⟨_, _, hh⟩
  · rename_i o ho
    split at hh
    · rcases hh with hh | ⟨_, _, _, hh⟩
      · unfold Oper.wp at hh
        generalize (execOp a.eval o).run P w = r at hh
        cases r with
        | ok n w' =>
          cases n <;> simp only [Oper.upon] at hh
          case value v => exact ⟨_, _, hh⟩
          case skip => exact ⟨_, _, hh⟩
          case defer d => exact ⟨_, _, hh⟩
          case enter f args =>
            obtain ⟨e, w'', fr, hR, _⟩ := hh []
            cases e with
            | returned v => exact ⟨_, _, hR⟩
            | panicked ch => exact hR.elim
            | outgrown => obtain ⟨_, _, hR⟩ := hR; exact hR.elim
          case row rw_ args =>
            obtain ⟨v, w'', hR, _⟩ := hh default []
            exact ⟨_, _, hR⟩
        | halt x w' => cases x <;> simp only [Oper.upon] at hh
      · exact hh.elim
    · exact ⟨_, _, hh⟩

theorem Rel.scopeOk {A : Nat → Prop} {M : List (Option Nat)} {a : Act} {w : World} (R : Rel A M s h a w) : ScopedS s h.length := fun t z ht => by
  have hv := R.sr.val t z ht
  cases z <;> try trivial
  case ptr b off =>
    unfold VR at hv
    obtain ⟨g, _, hg, _⟩ := hv
    have := (List.getElem?_eq_some_iff.1 hg).1
    rw [R.hr.len] at this; exact this
  case mp b =>
    unfold VR at hv
    obtain ⟨g, hg, _⟩ := hv
    have := (List.getElem?_eq_some_iff.1 hg).1
    rw [R.hr.len] at this; exact this
  case sl b off n k ag =>
    unfold VR at hv
    rcases hv with ⟨hg, _⟩ | ⟨g, cap, e, sz, hg, _⟩
    · have := (List.getElem?_eq_some_iff.1 hg).1
      rw [R.hr.len] at this; exact this
    · have := (List.getElem?_eq_some_iff.1 hg).1
      rw [R.hr.len] at this; exact this
theorem runIx_scoped {A : Nat → Prop} (hO : OrcOk P O) {ops : Array Oper} : ∀ (l : List Nat) {M : List (Option Nat)} {s : List V} {h : Hp} {a : Act} {w : World}, Rel A M s h a w → ∀ {s1 : List V} {h1 : Hp}, runIx P O ops l s h = some (s1, h1) → ScopedS s1 h1.length
  | [], M, s, h, a, w, R, s1, h1, hr => by
    simp only [runIx, Option.some.injEq, Prod.mk.injEq] at hr
    obtain ⟨rfl, rfl⟩ := hr
    exact R.scopeOk
  | i :: l, M, s, h, a, w, R, s1, h1, hr => by
    simp only [runIx] at hr
    split at hr
    · rename_i o ho
      simp only [Option.bind_eq_some_iff] at hr
      obtain ⟨⟨s2, h2⟩, e1, e2⟩ := hr
      have := wpOp_exists (step_sound (Q := fun _ _ _ => False) hO R ho e1 (K := fun a' w' => ∃ M', Rel A M' s2 h2 a' w') fun a' w' M' _ R' => ⟨M', R'⟩)
      obtain ⟨a', w', M', R'⟩ := this
      exact runIx_scoped hO l R' e2
    · cases hr

theorem any_sound {A : Nat → Prop} (hO : OrcOk P O) (hF : Stills O F) {ops : Array Oper} (hd : drawOk F ops = true) {Q : Exit → Act → World → Prop} {s' : List V} : ∀ (fuel : Nat) (listed : Array Bool) {M : List (Option Nat)} {s : List V} {h : Hp} {a : Act} {w : World},
    listed.size = ops.size → Closed ops listed → (remOf ops.size listed).length = fuel → Rel A M s h a w → runIx P O ops (remOf ops.size listed) s h = some (s', h') →
    (∀ a' w' M', Grow A M h w M' h' w' → Rel A M' s' h' a' w' → Q .normal a' w') → wpAny P .any ops Q fuel listed a w := by
  intro fuel
  induction fuel with
  | zero =>
    intro listed M s h a w hsz hc hlen R hr hQ
    have hnil : remOf ops.size listed = [] := List.eq_nil_of_length_eq_zero hlen
    rw [hnil] at hr
    simp only [runIx, Option.some.injEq, Prod.mk.injEq] at hr
    obtain ⟨rfl, rfl⟩ := hr
    refine ⟨?_, hQ a w M (Grow.refl R.hr) R⟩
    apply List.eq_nil_iff_forall_not_mem.2
    intro i hi
    obtain ⟨h1, o, ho, _⟩ := mem_ready.1 hi
    have : i ∈ remOf ops.size listed := by
      simp only [remOf, List.mem_filter, List.mem_range]
      exact ⟨(Array.getElem?_eq_some_iff.1 ho).1, by simp [h1]⟩
    rw [hnil] at this
    cases this
  | succ fuel ih =>
    intro listed M s h a w hsz hc hlen R hr hQ
    have hall := List.all_eq_true.1 hd
    refine ⟨fun hnone => ?_, fun i hi => ?_⟩
    · -- the first that is left is ready
      exfalso
      cases hrem : remOf ops.size listed with
      | nil => rw [hrem] at hlen; simp at hlen
      | cons i rest =>
        have hi : i ∈ remOf ops.size listed := by rw [hrem]; simp
        have hi' := hi
        simp only [remOf, List.mem_filter, List.mem_range] at hi'
        obtain ⟨hin, hun⟩ := hi'
        have hmin : ∀ j, j < i → listed.getD j false = true := by
          intro j hj
          cases hl : listed.getD j false with
          | true => rfl
          | false =>
            exfalso
            have hjr : j ∈ remOf ops.size listed := by
              simp only [remOf, List.mem_filter, List.mem_range]
              exact ⟨by omega, by rw [getD_in (by omega) hl]; rfl⟩
            have hsorted : (remOf ops.size listed).Pairwise (· < ·) := List.Pairwise.filter _ List.pairwise_lt_range
            rw [hrem] at hjr hsorted
            rcases List.mem_cons.1 hjr with rfl | hjr
            · omega
            · have := (List.pairwise_cons.1 hsorted).1 j hjr; omega
        have hoi : ops[i]? = some ops[i] := by simp [hin]
        have : i ∈ Region.ready .any ops listed := by
          refine mem_ready.2 ⟨by simpa using hun, ops[i], hoi, fun e he hb => hmin _ ?_⟩
          have h1 := hall i (by simp [hin])
          rw [hoi] at h1
          simp only [Bool.and_eq_true] at h1
          have h2 := Array.all_eq_true_iff_forall_mem.1 h1.1 e he
          simpa [hb] using h2
        rw [hnone] at this
        cases this
    · obtain ⟨hun, oi, hoi, hpre⟩ := mem_ready.1 hi
      have hin : i < ops.size := (Array.getElem?_eq_some_iff.1 hoi).1
      have him : i ∈ remOf ops.size listed := by
        simp only [remOf, List.mem_filter, List.mem_range]; exact ⟨hin, by simp [hun]⟩
      obtain ⟨pre, post, hsplit⟩ := List.append_of_mem him
      have hsorted : (remOf ops.size listed).Pairwise (· < ·) := List.Pairwise.filter _ List.pairwise_lt_range
      rw [hsplit] at hsorted
      have hprelt : ∀ j ∈ pre, j < i := fun j hj => (List.pairwise_append.1 hsorted).2.2 j hj i (by simp)
      have hpost : ∀ j ∈ post, i < j := fun j hj => (List.pairwise_cons.1 (List.pairwise_append.1 hsorted).2.1).1 j hj
      have hpreun : ∀ j ∈ pre, listed.getD j true = false := fun j hj => by
        have : j ∈ remOf ops.size listed := by rw [hsplit]; simp [hj]
        simp only [remOf, List.mem_filter] at this
        simpa using this.2
      have hap : ∀ j ∈ pre, ∀ oj, ops[j]? = some oj → pairOk F ops oj oi = true := by
        intro j hj oj hoj
        have h1 := hall i (by simp [hin])
        rw [hoi] at h1
        simp only [Bool.and_eq_true] at h1
        have h2 := List.all_eq_true.1 h1.2 j (by simpa using hprelt j hj)
        simp only [hoj, Bool.or_eq_true] at h2
        have hunj := getD_both (hpreun j hj)
        rcases h2 with (h2 | h2) | h2
        · obtain ⟨ok, hok, e, he, hb, hon⟩ := Region.waitsFor_spec h2
          have : ok = oi := Option.some.inj (hok.symm.trans hoi)
          subst this
          have := hpre e he hb
          rw [hon, hunj] at this
          cases this
        · exact h2
        · rcases ancL_listed hc hoi hpre i [i] (by simp) j (by simpa using h2) with rfl | hl
          · have := hprelt j hj; omega
          · rw [hunj] at hl; cases hl
      rw [hsplit] at hr
      obtain ⟨s1, h1, e1, e2⟩ := runIx_first hF hoi hap (fun s1 h1 l _ hl => runIx_scoped hO l R hl) hr
      have hrem' : remOf ops.size (listed.setIfInBounds i true) = pre ++ post := by
        have : remOf ops.size (listed.setIfInBounds i true) = (remOf ops.size listed).filter (fun j => !(j == i)) := by
          unfold remOf
          rw [List.filter_filter]
          apply List.filter_congr
          intro j hj
          by_cases hji : j = i
          · subst hji
            have : (listed.setIfInBounds j true).getD j true = true := by simp [hsz, hin]
            rw [this]; simp
          · rw [getD_set_ne true (Ne.symm hji)]; simp [hji]
        rw [this, hsplit, List.filter_append, List.filter_cons]
        have f1 : pre.filter (fun j => !(j == i)) = pre := List.filter_eq_self.2 (fun j hj => by have := hprelt j hj; simp; omega)
        have f2 : post.filter (fun j => !(j == i)) = post := List.filter_eq_self.2 (fun j hj => by have := hpost j hj; simp; omega)
        rw [f1, f2]; simp
      refine step_sound hO R hoi e1 fun a' w' M' G R' => ?_
      refine ih (listed.setIfInBounds i true) (by simp [hsz]) ?_ ?_ R' (by rw [hrem']; exact e2) (fun a'' w'' M'' G' R'' => hQ a'' w'' M'' (G.trans G') R'')
      · intro j oj hj hl e he hb
        by_cases hij : i = j
        · subst hij
          have : oj = oi := Option.some.inj (hj.symm.trans hoi)
          subst this
          exact getD_set_true (hpre e he hb)
        · rw [getD_set_ne false hij] at hl
          exact getD_set_true (hc j oj hj hl e he hb)
      · rw [hrem']
        rw [hsplit] at hlen
        simp at hlen ⊢
        omega

theorem runIx_range {ops : Array Oper} : ∀ (l : List Oper) (k : Nat), (∀ j, j < l.length → l[j]? = ops[k + j]?) → ∀ {s : List V} {h : Hp}, runIx P O ops (List.range' k l.length) s h = absOps P O ops l s h
  | [], k, _, s, h => rfl
  | o :: l, k, hl, s, h => by
    have h0 : ops[k]? = some o := by simpa using (hl 0 (by simp)).symm
    simp only [List.length_cons, List.range'_succ, runIx, h0, absOps]
    congr 1
    funext p
    exact runIx_range l (k + 1) (fun j hj => by have := hl (j + 1) (by simp; omega); simpa [Nat.add_assoc, Nat.add_comm 1 j] using this)

/-- A region that draws its order. -/
theorem draw_sound {A : Nat → Prop} {M : List (Option Nat)} {a : Act} {w : World} (hO : OrcOk P O) (hF : Stills O F) (hm : P.follows .mixedOrders = true) {id : Nat} {ops : Array Oper} (hd : drawOk F ops = true) {Q : Exit → Act → World → Prop} {s' : List V}
    (R : Rel A M s h a w) (hr : absOps P O ops ops.toList s h = some (s', h')) (hQ : ∀ a' w' M', Grow A M h w M' h' w' → Rel A M' s' h' a' w' → Q .normal a' w') : (Code.region id ops true).wp P Q a w := by
  refine wp_region_any hm ?_
  have hrem : remOf ops.size (Array.replicate ops.size false) = List.range ops.size := by
    unfold remOf
    apply List.filter_eq_self.2
    intro i hi
    simp at hi
    simp [hi]
  have R' : Rel A M s h a w.drew := ⟨R.hr.drew, SR.keep (Grow.drew R.hr) R.sr, R.defers⟩
  refine any_sound hO hF hd (s' := s') (h' := h') ops.size (Array.replicate ops.size false) (by simp) (fun j oj _ hl => by rw [getD_replicate_false] at hl; cases hl) (by rw [hrem]; simp) R' ?_ (fun a' w' M' G R'' => hQ a' w' M' ((Grow.drew R.hr).trans G) R'')
  rw [hrem, List.range_eq_range']
  have := runIx_range (P := P) (O := O) (ops := ops) ops.toList 0 (fun j _ => by simp) (s := s) (h := h)
  rw [Array.length_toList] at this
  rw [this]
  exact hr
end
end Go.Vm
