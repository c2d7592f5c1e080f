import Derived.Test.YtbjiaiobpbpjoaaVmDraw
set_option linter.unusedSimpArgs false
set_option linter.unusedVariables false
namespace Go.Vm
open Go

inductive Ex where
  | normal
  | exit (id : Nat)
  | ret
def Ex.toExit : Ex → Exit
  | .normal => .normal
  | .exit id => .exit id
  | .ret => .ret

/-- What the claims lean on: the callees' contracts; which of them leave the blocks alone. -/
structure Env (P : Program) where
  O : Orc
  F : FuncId → Bool
  ok : OrcOk P O
  still : Stills O F
  mixed : P.follows .mixedOrders = true

/-- From the abstract state (s, h) the code comes to an exit x and a state for which Q holds. -/
def AW (P : Program) (c : Code) (Q : Ex → List V → Hp → Prop) (s : List V) (h : Hp) : Prop :=
  ∀ (A : Nat → Prop) (M : List (Option Nat)) (a : Act) (w : World), Rel A M s h a w →
    c.wp P (fun e a' w' => ∃ x s' h' M', e = Ex.toExit x ∧ Q x s' h' ∧ Grow A M h w M' h' w' ∧ Rel A M' s' h' a' w') a w

section
variable {P : Program} {Q Q' : Ex → List V → Hp → Prop} {s s' : List V} {h h' : Hp}

theorem AW.mono {c : Code} (hh : AW P c Q s h) (hq : ∀ x s h, Q x s h → Q' x s h) : AW P c Q' s h := fun A M a w R =>
  Code.wp_mono (fun e a' w' ⟨x, s', h', M', h1, h2, h3, h4⟩ => ⟨x, s', h', M', h1, hq _ _ _ h2, h3, h4⟩) (hh A M a w R)
theorem AW.skip (hq : Q .normal s h) : AW P .skip Q s h := fun A M a w R => wp_skip ⟨.normal, s, h, M, rfl, hq, Grow.refl R.hr, R⟩
theorem AW.exit {id : Nat} (hq : Q (.exit id) s h) : AW P (.exit id) Q s h := fun A M a w R => wp_exit ⟨.exit id, s, h, M, rfl, hq, Grow.refl R.hr, R⟩
theorem AW.ret (hq : Q .ret s h) : AW P .ret Q s h := fun A M a w R => wp_ret ⟨.ret, s, h, M, rfl, hq, Grow.refl R.hr, R⟩
theorem AW.region (E : Env P) {id : Nat} {ops : Array Oper} {draw : Bool} (hd : draw = true → drawOk E.F ops = true) (hr : absOps P E.O ops ops.toList s h = some (s', h')) (hq : Q .normal s' h') : AW P (.region id ops draw) Q s h := by
  intro A M a w R
  cases draw with
  | true => exact draw_sound E.ok E.still E.mixed (hd rfl) R hr (fun a' w' M' G R' => ⟨.normal, s', h', M', rfl, hq, G, R'⟩)
  | false =>
    refine wp_region ?_
    have := ops_sound (P := P) E.ok (Q := fun e a' w' => ∃ x s' h' M', e = Ex.toExit x ∧ Q x s' h' ∧ Grow A M h w M' h' w' ∧ Rel A M' s' h' a' w') ops.toList 0 (fun j => by simp) R hr (fun a' w' M' G R' => ⟨.normal, s', h', M', rfl, hq, G, R'⟩)
    rw [List.range_eq_range']
    simpa using this
def Ex.then (next : List V → Hp → Prop) (Q : Ex → List V → Hp → Prop) : Ex → List V → Hp → Prop
  | .normal, s, h => next s h
  | x, s, h => Q x s h
theorem AW.seq {c d : Code} (hh : AW P c (Ex.then (AW P d Q) Q) s h) : AW P (.seq c d) Q s h := by
  intro A M a w R
  refine wp_seq (Code.wp_mono (fun e a' w' ⟨x, s1, h1, M1, he, hq, G, R1⟩ => ?_) (hh A M a w R))
  subst he
  cases x with
  | normal => exact Code.wp_mono (fun e a'' w'' ⟨x, s2, h2, M2, he, hq, G2, R2⟩ => ⟨x, s2, h2, M2, he, hq, G.trans G2, R2⟩) (hq A M1 a' w' R1)
  | exit id => exact ⟨.exit id, s1, h1, M1, rfl, hq, G, R1⟩
  | ret => exact ⟨.ret, s1, h1, M1, rfl, hq, G, R1⟩
theorem AW.cond {c : Operand} {x y : Code} {t : Bool} (hc : ev s c = some (.sc (.bool t))) (h1 : t = true → AW P x Q s h) (h2 : t = false → AW P y Q s h) : AW P (.cond c x y) Q s h := by
  intro A M a w R
  have hv := ev_sound R.hr.glob R.sr hc
  unfold VR at hv
  refine wp_cond hv ?_
  cases t with
  | true => exact h1 rfl A M a w R
  | false => exact h2 rfl A M a w R
def Ex.inBlock (id : Nat) (Q : Ex → List V → Hp → Prop) : Ex → List V → Hp → Prop
  | .exit i, s, h => if i = id then Q .normal s h else Q (.exit i) s h
  | x, s, h => Q x s h
theorem AW.block {id : Nat} {c : Code} (hh : AW P c (Ex.inBlock id Q) s h) : AW P (.block id c) Q s h := by
  intro A M a w R
  refine wp_block (Code.wp_mono (fun e a' w' ⟨x, s1, h1, M1, he, hq, G, R1⟩ => ?_) (hh A M a w R))
  subst he
  cases x with
  | normal => exact ⟨.normal, s1, h1, M1, rfl, hq, G, R1⟩
  | exit i =>
    show Exit.inBlock id _ (.exit i) a' w'
    simp only [Exit.inBlock]
    simp only [Ex.inBlock] at hq
    split
    · rename_i hi; rw [if_pos hi] at hq; exact ⟨.normal, s1, h1, M1, rfl, hq, G, R1⟩
    · rename_i hi; rw [if_neg hi] at hq; exact ⟨.exit i, s1, h1, M1, rfl, hq, G, R1⟩
  | ret => exact ⟨.ret, s1, h1, M1, rfl, hq, G, R1⟩
theorem least {p : Nat → Prop} (hp : ∃ n, p n) : ∃ k, p k ∧ ∀ j, p j → k ≤ j := by
  obtain ⟨n, hn⟩ := hp
  induction n using Nat.strongRecOn with
  | _ n ih =>
    by_cases hex : ∃ j, j < n ∧ p j
    · obtain ⟨j, hj, hh⟩ := hex; exact ih j hj hh
    · exact ⟨n, hn, fun j hj => Nat.le_of_not_lt fun hlt => hex ⟨j, hlt, hj⟩⟩
/-- A loop: I n holds at the head, n goes down. -/
theorem AW.loop {c : Code} (I : Nat → List V → Hp → Prop) {n : Nat} (h0 : I n s h) (round : ∀ n s h, I n s h → AW P c (Ex.then (fun s' h' => ∃ m, m < n ∧ I m s' h') Q) s h) : AW P (.loop c) Q s h := by
  intro A M a w R
  let p : Act → World → Nat → Prop := fun a' w' k => ∃ s' h' M', I k s' h' ∧ Grow A M h w M' h' w' ∧ Rel A M' s' h' a' w'
  let μ : Act → World → Nat := fun a' w' => Classical.epsilon fun k => p a' w' k ∧ ∀ j, p a' w' j → k ≤ j
  have hμ : ∀ a' w', (∃ k, p a' w' k) → p a' w' (μ a' w') ∧ ∀ j, p a' w' j → μ a' w' ≤ j := fun a' w' hh => Classical.epsilon_spec (least hh)
  refine wp_loop (fun a' w' => ∃ k, p a' w' k) μ ⟨n, s, h, M, h0, Grow.refl R.hr, R⟩ ?_
  intro a1 w1 hI
  obtain ⟨s1, h1, M1, hIk, G1, R1⟩ := (hμ a1 w1 hI).1
  refine Code.wp_mono (fun e a2 w2 ⟨x, s2, h2, M2, he, hq, G2, R2⟩ => ?_) (round _ s1 h1 hIk A M1 a1 w1 R1)
  subst he
  cases x with
  | normal =>
    obtain ⟨m, hm, hIm⟩ := hq
    have hex2 : p a2 w2 m := ⟨s2, h2, M2, hIm, G1.trans G2, R2⟩
    exact ⟨⟨m, hex2⟩, Nat.lt_of_le_of_lt ((hμ a2 w2 ⟨m, hex2⟩).2 m hex2) hm⟩
  | exit id => exact ⟨.exit id, s2, h2, M2, rfl, hq, G1.trans G2, R2⟩
  | ret => exact ⟨.ret, s2, h2, M2, rfl, hq, G1.trans G2, R2⟩

/-! ### Functions -/
def resVar (P : Program) (s : List V) (h : Hp) : ResultVar → Option V
  | .tmp t => s[t]?
  | .cell a t => (s[a]?).bind fun x => (nilCheckV x).bind fun x => loadV P t h x
def resV (P : Program) (fn : Func) (s : List V) (h : Hp) : Option V :=
  match fn.results.toList with
  | [] => some (.tup [])
  | [a] => resVar P s h a
  | [a, b] => (resVar P s h a).bind fun x => (resVar P s h b).bind fun y => some (.tup [x, y])
  | [a, b, c] => (resVar P s h a).bind fun x => (resVar P s h b).bind fun y => (resVar P s h c).bind fun z => some (.tup [x, y, z])
  | _ => none

def resSem (P : Program) (tmps : Array Value) : ResultVar → Sem Value
  | .tmp t => pure (tmps.getD t undef)
  | .cell a t => do loadVar t (← asAddr (tmps.getD a undef))

theorem resVar_sound {A : Nat → Prop} {M : List (Option Nat)} {a : Act} {w : World} (R : Rel A M s h a w) {rv : ResultVar} {x : V} (hx : resVar P s h rv = some x) :
    ∃ v, (resSem P a.tmps rv).run P w = .ok v w ∧ VR (Xs A M h) M w x v := by
  cases rv with
  | tmp t => exact ⟨_, rfl, R.sr.val t x hx⟩
  | cell b t =>
    simp only [resVar, Option.bind_eq_some_iff] at hx
    obtain ⟨y, hy, z, hz, hl⟩ := hx
    have hv := R.sr.val b y hy
    obtain ⟨u, hu, hru⟩ : ∃ u, (Instr.loadAt t (a.tmps.getD b undef)).run P w = .ok u w ∧ VR (Xs A M h) M w x u := by
      unfold nilCheckV at hz
      split at hz
      · injection hz with hz; subst hz; exact loadV_sound R.hr hv hl
      · injection hz with hz; subst hz; exact loadV_sound R.hr hv hl
      · cases hz
    refine ⟨u, ?_, hru⟩
    unfold nilCheckV at hz
    have hp : ∃ ad, a.tmps.getD b undef = .pointer (some ad) := by
      split at hz
      · unfold VR at hv; obtain ⟨g, _, _, e, _⟩ := hv; exact ⟨_, e⟩
      · unfold VR at hv; obtain ⟨ad, k, e, _⟩ := hv; exact ⟨_, e⟩
      · cases hz
    obtain ⟨ad, hp⟩ := hp
    rw [hp] at hu
    simp only [resSem, hp, asAddr]
    simpa [Instr.loadAt, Instr.sureAddr] using hu

theorem resV_sound {A : Nat → Prop} {M : List (Option Nat)} {a : Act} {w : World} (R : Rel A M s h a w) {fn : Func} {x : V} (hx : resV P fn s h = some x) :
    ∃ v, (results fn a.tmps).run P w = .ok v w ∧ VR (Xs A M h) M w x v := by
  unfold resV at hx
  have key : ∀ l : List ResultVar, fn.results.toList = l → fn.results = l.toArray := fun l hl => by rw [← hl]
  have e : results fn a.tmps = (do let vs ← fn.results.mapM (resSem P a.tmps); pure (if h : vs.size = 1 then vs[0] else .tuple vs)) := by
    unfold results
    congr 1
  rw [e]
  split at hx
  · rename_i hl
    injection hx with hx; subst hx
    exact ⟨.tuple #[], by simp [key _ hl], by unfold VR; exact ⟨[], rfl, by unfold VCells; rfl⟩⟩
  · rename_i r hl
    obtain ⟨v, hv, hr⟩ := resVar_sound R hx
    refine ⟨v, ?_, hr⟩
    simp [key _ hl, hv]
  · rename_i r q hl
    simp only [Option.bind_eq_some_iff, Option.some.injEq] at hx
    obtain ⟨x1, h1, x2, h2, rfl⟩ := hx
    obtain ⟨v1, hv1, hr1⟩ := resVar_sound R h1
    obtain ⟨v2, hv2, hr2⟩ := resVar_sound R h2
    refine ⟨.tuple #[v1, v2], ?_, by unfold VR; exact ⟨[v1, v2], rfl, by unfold VCells; exact ⟨_, _, rfl, hr1, by unfold VCells; exact ⟨_, _, rfl, hr2, by unfold VCells; rfl⟩⟩⟩⟩
    simp [key _ hl, hv1, hv2]
  · rename_i r q p hl
    simp only [Option.bind_eq_some_iff, Option.some.injEq] at hx
    obtain ⟨x1, h1, x2, h2, x3, h3, rfl⟩ := hx
    obtain ⟨v1, hv1, hr1⟩ := resVar_sound R h1
    obtain ⟨v2, hv2, hr2⟩ := resVar_sound R h2
    obtain ⟨v3, hv3, hr3⟩ := resVar_sound R h3
    refine ⟨.tuple #[v1, v2, v3], ?_, by unfold VR; exact ⟨[v1, v2, v3], rfl, by unfold VCells; exact ⟨_, _, rfl, hr1, by unfold VCells; exact ⟨_, _, rfl, hr2, by unfold VCells; exact ⟨_, _, rfl, hr3, by unfold VCells; rfl⟩⟩⟩⟩⟩
    simp [key _ hl, hv1, hv2, hv3]
  · cases hx

theorem run_enter {f : FuncId} {fn : Func} (hf : P.funcs[f]? = some fn) (hb : fn.body.isNone = false) (hn : (fn.name == "runtime.NumGoroutine") = false) (vs : Array Value) (w : World) : (callFunc f vs).run P w = .ok (.enter f vs) w := by
  unfold callFunc
  have hp : (program : Sem Program).run P w = .ok P w := rfl
  rw [Sem.run_bind, hp, Result.andThen_ok]
  simp only [hf, hn, hb, Bool.false_eq_true, if_false]
  rfl

/-- The frame at a function's beginning. -/
def frame0 (fn : Func) (args : List V) : List V := args ++ List.replicate (fn.ntmps - args.length) (.sc undef)
theorem frame_rel {A : Nat → Prop} {M : List (Option Nat)} {w : World} {fn : Func} {args : List V} {vs : List Value} (H : HR A M h w) (hargs : VCells (Xs A M h) M w args vs) :
    Rel A M (frame0 fn args) h { tmps := vs.toArray ++ Array.replicate (fn.ntmps - vs.toArray.size) undef, defers := [] } w := by
  refine ⟨H, ⟨by simp [frame0, hargs.len], fun t x hx => ?_⟩, rfl⟩
  have hl := hargs.len
  simp only [frame0] at hx
  rcases Nat.lt_or_ge t args.length with ht | ht
  · rw [List.getElem?_append_left ht] at hx
    obtain ⟨v, hv, hr⟩ := hargs.get hx
    have : (vs.toArray ++ Array.replicate (fn.ntmps - vs.toArray.size) undef).getD t undef = v := by
      have ht' : t < vs.length := by omega
      have hv' : vs[t] = v := by rw [List.getElem?_eq_getElem ht'] at hv; injection hv
      simp [Array.getD_eq_getD_getElem?, Array.getElem?_append_left, ht', hv']
    rw [this]; exact hr
  · rw [List.getElem?_append_right ht, List.getElem?_replicate] at hx
    split at hx
    · injection hx with hx; subst hx
      have : (vs.toArray ++ Array.replicate (fn.ntmps - vs.toArray.size) undef).getD t undef = undef := by
        simp only [Array.getD_eq_getD_getElem?]
        rw [Array.getElem?_append_right (by simp; omega)]
        simp [Array.getElem?_replicate]
        split <;> rfl
      simp only
      rw [this]; unfold VR; rfl
    · cases hx

theorem fn_of_body {f : FuncId} {fn : Func} {c : Code} {args : List V} {r : V} (hf : P.funcs[f]? = some fn) (hb : fn.body = some c) (hn : (fn.name == "runtime.NumGoroutine") = false)
    (hh : AW P c (fun x s' h'' => (∀ id, x ≠ .exit id) ∧ h'' = h' ∧ resV P fn s' h'' = some r) (frame0 fn args) h) : Fn P f h args r h' := by
  intro A M w vs H hargs
  refine .inl ⟨run_enter hf (by rw [hb]; rfl) hn _ _, calls_of_wp hf hb ?_⟩
  refine Code.wp_mono (fun e a' w' ⟨x, s1, h1, M1, he, ⟨hx, hh1, hres⟩, G, R1⟩ => ?_) (hh A M _ w (frame_rel H hargs))
  subst he hh1
  obtain ⟨v, hv, hr⟩ := resV_sound R1 hres
  cases x with
  | normal => exact ⟨R1.defers, v, hv, v, rfl, M1, G, hr⟩
  | ret => exact ⟨R1.defers, v, hv, v, rfl, M1, G, hr⟩
  | exit id => exact absurd rfl (hx id)
end
end Go.Vm
