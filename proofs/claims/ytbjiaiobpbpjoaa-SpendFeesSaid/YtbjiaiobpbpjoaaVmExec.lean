import Derived.Test.YtbjiaiobpbpjoaaVmEval
set_option linter.unusedSimpArgs false
set_option linter.unusedVariables false
namespace Go.Vm
open Go

/-- The abstract machine, run. -/
def exec (P : Program) (O : Orc) : Nat → Code → List V → Hp → Option (Ex × List V × Hp)
  | 0, _, _, _ => none
  | n + 1, c, s, h => match c with
    | .skip => some (.normal, s, h)
    | .region _ ops draw => if !draw || drawOk (fun _ => false) ops then (absOps P O ops ops.toList s h).map fun p => (.normal, p.1, p.2) else none
    | .seq a b => match exec P O n a s h with
      | some (.normal, s1, h1) => exec P O n b s1 h1
      | r => r
    | .cond c x y => match ev s c with
      | some (.sc (.bool true)) => exec P O n x s h
      | some (.sc (.bool false)) => exec P O n y s h
      | _ => none
    | .block id c => match exec P O n c s h with
      | some (.exit i, s1, h1) => if i = id then some (.normal, s1, h1) else some (.exit i, s1, h1)
      | r => r
    | .loop c => match exec P O n c s h with
      | some (.normal, s1, h1) => exec P O n (.loop c) s1 h1
      | r => r
    | .exit id => some (.exit id, s, h)
    | .ret => some (.ret, s, h)
    | _ => none

theorem exec_sound {P : Program} {O : Orc} (hO : OrcOk P O) (hm : P.follows .mixedOrders = true) : ∀ (n : Nat) (c : Code) (s : List V) (h : Hp) (r : Ex × List V × Hp), exec P O n c s h = some r → AW P c (fun x s1 h1 => (x, s1, h1) = r) s h := by
  intro n
  induction n using Nat.strongRecOn with
  | _ n ih =>
    intro c s h r hr
    cases n with
    | zero => simp [exec] at hr
    | succ n =>
      have E : Env P := { O := O, F := fun _ => false, ok := hO, still := fun f h args r h' hf => (by cases hf), mixed := hm }
      cases c <;> simp only [exec] at hr
      case skip => injection hr with hr; subst hr; exact AW.skip rfl
      case region id ops draw =>
        split at hr
        · rename_i hd
          simp only [Option.map_eq_some_iff] at hr
          obtain ⟨p, hp, rfl⟩ := hr
          refine AW.region { O := O, F := fun _ => false, ok := hO, still := fun f h args r h' hf => (by cases hf), mixed := hm } (fun hh => ?_) (s' := p.1) (h' := p.2) hp rfl
          simpa [hh] using hd
        · cases hr
      case seq a b =>
        refine AW.seq ?_
        split at hr
        · rename_i s1 h1 he
          refine (ih n (by omega) a s h _ he).mono fun x s2 h2 hx => ?_
          injection hx with h1 h2; injection h2 with h2 h3; subst h1 h2 h3
          exact ih n (by omega) b _ _ _ hr
        · rename_i hne
          refine (ih n (by omega) a s h _ hr).mono fun x s2 h2 hx => ?_
          cases x with
          | normal => exact absurd (hx ▸ hr) (hne s2 h2)
          | exit id => exact hx
          | ret => exact hx
      case cond c x y =>
        split at hr
        · rename_i hc; exact AW.cond hc (fun _ => ih n (by omega) x s h r hr) (fun hh => by cases hh)
        · rename_i hc; exact AW.cond hc (fun hh => by cases hh) (fun _ => ih n (by omega) y s h r hr)
        · cases hr
      case block id c =>
        refine AW.block ?_
        split at hr
        · rename_i i s1 h1 he
          refine (ih n (by omega) c s h _ he).mono fun x s2 h2 hx => ?_
          injection hx with e1 e2; injection e2 with e2 e3; subst e1 e2 e3
          simp only [Ex.inBlock]
          split
          · rename_i hi; rw [if_pos hi] at hr; injection hr
          · rename_i hi; rw [if_neg hi] at hr; injection hr
        · rename_i hne
          refine (ih n (by omega) c s h _ hr).mono fun x s2 h2 hx => ?_
          cases x with
          | normal => exact hx
          | exit i => exact absurd (hx ▸ hr) (hne i s2 h2)
          | ret => exact hx
      case loop c =>
        have h0 : exec P O (n + 1) (.loop c) s h = some r := by simp only [exec]; exact hr
        refine AW.loop (fun m s h => m ≤ n + 1 ∧ exec P O m (.loop c) s h = some r) ⟨Nat.le_refl _, h0⟩ ?_
        rintro m s1 h1 ⟨hm', he⟩
        cases m with
        | zero => simp [exec] at he
        | succ m =>
          simp only [exec] at he
          split at he
          · rename_i s2 h2 hb
            refine (ih m (by omega) c s1 h1 _ hb).mono fun x s3 h3 hx => ?_
            injection hx with e1 e2; injection e2 with e2 e3; subst e1 e2 e3
            exact ⟨m, by omega, by omega, he⟩
          · rename_i hne
            refine (ih m (by omega) c s1 h1 _ he).mono fun x s3 h3 hx => ?_
            cases x with
            | normal => exact absurd (hx ▸ he) (hne s3 h3)
            | exit i => exact hx
            | ret => exact hx
      case exit id => injection hr with hr; subst hr; exact AW.exit rfl
      case ret => injection hr with hr; subst hr; exact AW.ret rfl
      all_goals cases hr

/-- A function of the program, run. -/
def evalFn (P : Program) : Nat → Orc
  | 0, _, _, _ => none
  | n + 1, f, h, args => match P.funcs[f]? with
    | some fn => match fn.body with
      | some c => if fn.name == "runtime.NumGoroutine" then none else
        match exec P (evalFn P n) n c (frame0 fn args) h with
        | some (.exit _, _, _) => none
        | some (_, s', h') => (resV P fn s' h').map fun r => (r, h')
        | none => none
      | none => none
    | none => none

theorem evalFn_ok {P : Program} (hm : P.follows .mixedOrders = true) : ∀ n, OrcOk P (evalFn P n)
  | 0 => fun f h args r h' hh => by cases hh
  | n + 1 => fun f h args r h' hh => by
    simp only [evalFn] at hh
    split at hh
    · rename_i fn hf
      split at hh
      · rename_i c hb
        split at hh
        · cases hh
        · rename_i hn
          split at hh
          · cases hh
          · rename_i x s' h1 hne he
            simp only [Option.map_eq_some_iff, Prod.mk.injEq] at hh
            obtain ⟨r', hr', rfl, rfl⟩ := hh
            refine fn_of_body hf hb (by simpa using hn) ((exec_sound (evalFn_ok hm n) hm n c _ h _ he).mono fun y s2 h2 hy => ?_)
            injection hy with e1 e2; injection e2 with e2 e3; subst e1 e2 e3
            exact ⟨fun id hx => hne id hx, rfl, hr'⟩
          · cases hh
      · cases hh
    · cases hh

/-- A call without arguments, run from no local blocks; what it leaves behind is forgotten. -/
theorem pfn_run {P : Program} (hm : P.follows .mixedOrders = true) (n : Nat) {f : FuncId} {args : List V} {r r' : V} {h' : Hp} (he : evalFn P n f [] args = some (r, h')) (hx : expV h' r = some r') : PFn P f args r' := by
  intro A w vs hA hGl hargs
  have hF := evalFn_ok hm n f [] args r h' he A [] w vs (HR.nil hA hGl) (hargs.avoid fun g _ hx => Xs_nil.1 hx)
  refine hF.mono fun v w' ⟨M', G, hv⟩ => ⟨G.ext.mono fun g _ hl => ?_, expV_sound G.hr hv hx⟩
  obtain ⟨b, B, hb, _⟩ := hl; simp at hb
end Go.Vm
