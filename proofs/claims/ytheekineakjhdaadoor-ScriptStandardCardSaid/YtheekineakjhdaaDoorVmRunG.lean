import Derived.Test.YtheekineakjhdaaDoorVmStl
import Derived.Test.YtheekineakjhdaaDoorVmDrawG
set_option linter.unusedSimpArgs false
set_option linter.unusedVariables false
namespace Go.Vm
open Go

/-! ### The machine, run, with all orders of its drawn regions -/
def eqVal : Value → Value → Bool
  | .int k a, .int k' b => decide (k = k') && decide (a = b)
  | .bool a, .bool b => decide (a = b)
  | .string a, .string b => decide (a = b)
  | .pointer none, .pointer none => true
  | .slice none a b, .slice none c d => decide (a = c) && decide (b = d)
  | _, _ => false
theorem eqVal_eq {a b : Value} (h : eqVal a b = true) : a = b := by
  unfold eqVal at h
  split at h
  · simp only [Bool.and_eq_true, decide_eq_true_eq] at h; rw [h.1, h.2]
  · simp only [decide_eq_true_eq] at h; rw [h]
  · simp only [decide_eq_true_eq] at h; rw [h]
  · rfl
  · simp only [Bool.and_eq_true, decide_eq_true_eq] at h; rw [h.1, h.2]
  · cases h
mutual
def eqV : V → V → Bool
  | .sc a, .sc b => eqVal a b
  | .row n k es, .row n' k' es' => decide (n = n') && decide (k = k') && eqVs es es'
  | .agg a, .agg b => eqVs a b
  | .tup a, .tup b => eqVs a b
  | .ptr b o, .ptr b' o' => decide (b = b') && decide (o = o')
  | .sl b o n k a, .sl b' o' n' k' a' => decide (b = b') && decide (o = o') && decide (n = n') && decide (k = k') && decide (a = a')
  | .eptr es i o, .eptr es' i' o' => eqVs es es' && decide (i = i') && decide (o = o')
  | .any, .any => true
  | _, _ => false
def eqVs : List V → List V → Bool
  | [], [] => true
  | x :: xs, y :: ys => eqV x y && eqVs xs ys
  | _, _ => false
end
mutual
theorem eqV_eq : ∀ (x y : V), eqV x y = true → x = y
  | .sc a, y, h => by cases y <;> simp only [eqV, Bool.false_eq_true] at h; rw [eqVal_eq h]
  | .row n k es, y, h => by
    cases y <;> simp only [eqV, Bool.false_eq_true, Bool.and_eq_true, decide_eq_true_eq] at h
    rw [h.1.1, h.1.2, eqVs_eq es _ h.2]
  | .agg a, y, h => by cases y <;> simp only [eqV, Bool.false_eq_true] at h; rw [eqVs_eq a _ h]
  | .tup a, y, h => by cases y <;> simp only [eqV, Bool.false_eq_true] at h; rw [eqVs_eq a _ h]
  | .ptr b o, y, h => by cases y <;> simp only [eqV, Bool.false_eq_true, Bool.and_eq_true, decide_eq_true_eq] at h; rw [h.1, h.2]
  | .sl b o n k a, y, h => by
    cases y <;> simp only [eqV, Bool.false_eq_true, Bool.and_eq_true, decide_eq_true_eq] at h
    rw [h.1.1.1.1, h.1.1.1.2, h.1.1.2, h.1.2, h.2]
  | .eptr es i o, y, h => by
    cases y <;> simp only [eqV, Bool.false_eq_true, Bool.and_eq_true, decide_eq_true_eq] at h
    rw [eqVs_eq es _ h.1.1, h.1.2, h.2]
  | .any, y, h => by cases y <;> simp only [eqV, Bool.false_eq_true] at h; rfl
theorem eqVs_eq : ∀ (xs ys : List V), eqVs xs ys = true → xs = ys
  | [], ys, h => by cases ys <;> simp only [eqVs, Bool.false_eq_true] at h; rfl
  | x :: xs, ys, h => by
    cases ys <;> simp only [eqVs, Bool.false_eq_true, Bool.and_eq_true] at h
    rw [eqV_eq x _ h.1, eqVs_eq xs _ h.2]
end
def eqH : Hp → Hp → Bool
  | [], [] => true
  | none :: h, none :: h' => eqH h h'
  | some B :: h, some B' :: h' => decide (B.e = B'.e) && eqVs B.cells B'.cells && eqH h h'
  | _, _ => false
theorem eqH_eq : ∀ (h h' : Hp), eqH h h' = true → h = h'
  | [], h', hh => by cases h' <;> simp only [eqH, Bool.false_eq_true] at hh; rfl
  | none :: h, h', hh => by
    cases h' with
    | nil => simp only [eqH, Bool.false_eq_true] at hh
    | cons o h' => cases o <;> simp only [eqH, Bool.false_eq_true] at hh; rw [eqH_eq h _ hh]
  | some B :: h, h', hh => by
    cases h' with
    | nil => simp only [eqH, Bool.false_eq_true] at hh
    | cons o h' =>
      cases o <;> simp only [eqH, Bool.false_eq_true, Bool.and_eq_true, decide_eq_true_eq] at hh
      rename_i B'
      cases B; cases B'
      simp only at hh
      rw [hh.1.1, eqVs_eq _ _ hh.1.2, eqH_eq h _ hh.2]

def bindL {α β : Type} (f : α → Option (List β)) : List α → Option (List β)
  | [] => some []
  | r :: rs => match f r, bindL f rs with
    | some a, some b => some (a ++ b)
    | _, _ => none
theorem bindL_mem {α β : Type} {f : α → Option (List β)} : ∀ {rs : List α} {out : List β}, bindL f rs = some out → ∀ r ∈ rs, ∃ a, f r = some a ∧ ∀ x ∈ a, x ∈ out
  | [], out, _, r, hr => by cases hr
  | q :: rs, out, h, r, hr => by
    simp only [bindL] at h
    split at h
    · rename_i a b ha hb
      injection h with h
      subst h
      rcases List.mem_cons.1 hr with rfl | hr
      · exact ⟨a, ha, fun x hx => List.mem_append_left _ hx⟩
      · obtain ⟨c, hc, hm⟩ := bindL_mem hb r hr
        exact ⟨c, hc, fun x hx => List.mem_append_right _ (hm x hx)⟩
    · cases h

section
variable {P : Program} {F G : FuncId → Bool} {O : Orc}
def stepG (P : Program) (F G : FuncId → Bool) (O : Orc) (ops : Array Oper) (o : Oper) (s : List V) (h : Hp) : Option (List V × Hp) :=
  match wantedV ops o s with
  | none => none
  | some false => some (putV s o.dst (.sc undef), h)
  | some true =>
    match o.op with
    | .call ⟨.value (.func f), args, _⟩ =>
      match evs s args.toList with
      | none => none
      | some xs => match O f h xs with
        | none => none
        | some (v, h') => if (!F f || eqH h' h) && (!G f || eqH (h'.take h.length) h) then some (putV s o.dst v, h') else none
    | _ => (absOp P O0 o s h).map fun p => (putV s o.dst p.1, p.2)
theorem stepG_sound (hO : OrcOk P O) {ops : Array Oper} {o : Oper} {s s1 : List V} {h h1 : Hp} (hs : stepG P F G O ops o s h = some (s1, h1)) : StepR P F G ops o s h s1 h1 := by
  unfold stepG at hs
  split at hs
  · cases hs
  · rename_i hw
    injection hs with hs
    injection hs with e1 e2
    subst e1 e2
    exact ⟨O0, noOrc, noStill, noGrow, by rw [absStep_eq]; simp only [stepVal, hw, Option.map_some]⟩
  · rename_i hw
    split at hs
    · rename_i f args ts hop
      split at hs
      · cases hs
      · rename_i xs hxs
        split at hs
        · cases hs
        · rename_i v h' hv
          split at hs
          · rename_i hc
            simp only [Bool.and_eq_true, Bool.or_eq_true, Bool.not_eq_true'] at hc
            injection hs with hs
            injection hs with e1 e2
            subst e1 e2
            have hF : F f = true → h' = h := fun hf => by
              rcases hc.1 with h1 | h1
              · rw [hf] at h1; cases h1
              · exact eqH_eq _ _ h1
            have hG : G f = true → ∃ news, h' = h ++ news := fun hg => by
              rcases hc.2 with h1 | h1
              · rw [hg] at h1; cases h1
              · exact ⟨h'.drop h.length, by conv => lhs; rw [← List.take_append_drop h.length h', eqH_eq _ _ h1]⟩
            refine ⟨orc1 f h xs v h', orc1_ok (hO _ _ _ _ _ hv), ?_, ?_, ?_⟩
            · intro k h1 args r1 h2 hk hh
              unfold orc1 at hh
              split at hh
              · rename_i he
                obtain ⟨rfl, rfl, rfl⟩ := he
                simp only [Option.some.injEq, Prod.mk.injEq] at hh
                rw [← hh.2]; exact hF hk
              · cases hh
            · intro k h1 args r1 h2 hk hh
              unfold orc1 at hh
              split at hh
              · rename_i he
                obtain ⟨rfl, rfl, rfl⟩ := he
                simp only [Option.some.injEq, Prod.mk.injEq] at hh
                rw [← hh.2]; exact hG hk
              · cases hh
            · rw [absStep_eq]
              have : absOp P (orc1 f h xs v h') o s h = some (v, h') := by
                simp only [absOp, hop, callV, hxs, orc1_hit]
              simp only [stepVal, hw, this, Option.map_some]
          · cases hs
    · simp only [Option.map_eq_some_iff, Prod.mk.injEq] at hs
      obtain ⟨p, hp, rfl, rfl⟩ := hs
      exact ⟨O0, noOrc, noStill, noGrow, by rw [absStep_eq]; simp only [stepVal, hw, hp, Option.map_some]⟩
def drawRun (P : Program) (F G : FuncId → Bool) (O : Orc) (ops : Array Oper) : Nat → Array Bool → List V → Hp → Option (List (List V × Hp))
  | 0, listed, s, h => if (remOf ops.size listed).isEmpty then some [(s, h)] else none
  | n + 1, listed, s, h =>
    match (List.range ops.size).find? fun i => pickAll F G ops listed i with
    | some i => match ops[i]? with
      | none => none
      | some o => match stepG P F G O ops o s h with
        | none => none
        | some p => drawRun P F G O ops n (listed.setIfInBounds i true) p.1 p.2
    | none => if (Region.ready .any ops listed).isEmpty then none else
      bindL (fun i => match ops[i]? with
        | none => none
        | some o => match stepG P F G O ops o s h with
          | none => none
          | some p => drawRun P F G O ops n (listed.setIfInBounds i true) p.1 p.2) (Region.ready .any ops listed)
theorem drawRun_sound (hO : OrcOk P O) {ops : Array Oper} {K : List V → Hp → Prop} : ∀ (n : Nat) (listed : Array Bool) (s : List V) (h : Hp) (rs : List (List V × Hp)), drawRun P F G O ops n listed s h = some rs → (∀ p ∈ rs, K p.1 p.2) → DrawG P F G ops n listed s h K
  | 0, listed, s, h, rs, hr, hK => by
    simp only [drawRun] at hr
    split at hr
    · rename_i he
      injection hr with hr
      subst hr
      exact DrawG.nil (by simpa using he) (hK (s, h) (by simp))
    · cases hr
  | n + 1, listed, s, h, rs, hr, hK => by
    simp only [drawRun] at hr
    split at hr
    · rename_i i hi
      have hp := List.find?_some hi
      split at hr
      · cases hr
      · rename_i o ho
        split at hr
        · cases hr
        · rename_i p hs
          exact DrawG.pick hp ho (stepG_sound hO hs) (drawRun_sound hO n _ _ _ rs hr hK)
    · split at hr
      · cases hr
      · rename_i hne
        refine DrawG.fork _ rfl (by intro h0; rw [h0] at hne; exact hne rfl) ?_
        have hall := bindL_mem hr
        clear hr hne
        generalize Region.ready .any ops listed = l at hall
        induction l with
        | nil => exact Fork.nil
        | cons i l ih =>
          obtain ⟨a, ha, hm⟩ := hall i (by simp)
          split at ha
          · cases ha
          · rename_i o ho
            split at ha
            · cases ha
            · rename_i p hs
              exact Fork.cons ho (stepG_sound hO hs) (drawRun_sound hO n _ _ _ a ha (fun q hq => hK q (hm q hq))) (ih fun j hj => hall j (by simp [hj]))
def closeEx (id : Nat) (r : Ex × List V × Hp) : Ex × List V × Hp := match r with
  | (.exit i, s, h) => if i = id then (.normal, s, h) else (.exit i, s, h)
  | r => r
def exec2 (P : Program) (F G : FuncId → Bool) (O : Orc) : Nat → Code → List V → Hp → Option (List (Ex × List V × Hp))
  | 0, _, _, _ => none
  | n + 1, c, s, h => match c with
    | .skip => some [(.normal, s, h)]
    | .region _ ops draw => if draw then (drawRun P F G O ops ops.size (Array.replicate ops.size false) s h).map (List.map fun p => (.normal, p.1, p.2)) else (absOps P O ops ops.toList s h).map fun p => [(.normal, p.1, p.2)]
    | .seq a b => match exec2 P F G O n a s h with
      | none => none
      | some rs => bindL (fun r => match r with
        | (.normal, s1, h1) => exec2 P F G O n b s1 h1
        | r => some [r]) rs
    | .cond c x y => match ev s c with
      | some (.sc (.bool true)) => exec2 P F G O n x s h
      | some (.sc (.bool false)) => exec2 P F G O n y s h
      | _ => none
    | .block id c => (exec2 P F G O n c s h).map (List.map (closeEx id))
    | .loop c => match exec2 P F G O n c s h with
      | none => none
      | some rs => bindL (fun r => match r with
        | (.normal, s1, h1) => exec2 P F G O n (.loop c) s1 h1
        | r => some [r]) rs
    | .exit id => some [(.exit id, s, h)]
    | .ret => some [(.ret, s, h)]
    | _ => none
theorem opsW_of {N : Nat} (hO : OrcOk P O) {ops : Array Oper} {K : List V → Hp → Prop} : ∀ (l : List Oper) (s : List V) (h : Hp) (p : List V × Hp), absOps P O ops l s h = some p → K p.1 p.2 → OpsW P N ops l s h K
  | [], s, h, p, hr, hk => by simp only [absOps, Option.some.injEq] at hr; subst hr; exact OpsW.nil hk
  | o :: l, s, h, p, hr, hk => by
    simp only [absOps, Option.bind_eq_some_iff] at hr
    obtain ⟨q, hq, hr⟩ := hr
    rw [absStep_eq] at hq
    simp only [Option.map_eq_some_iff] at hq
    obtain ⟨⟨v, h'⟩, hv, rfl⟩ := hq
    exact OpsW.cons hO hv (opsW_of hO l _ _ p hr hk)
theorem exec2_sound {N : Nat} (hO : OrcOk P O) (hm : P.follows .mixedOrders = true) : ∀ (n : Nat) (c : Code) (s : List V) (h : Hp) (rs : List (Ex × List V × Hp)) (Q : Ex → List V → Hp → Prop), exec2 P F G O n c s h = some rs → (∀ r ∈ rs, Q r.1 r.2.1 r.2.2) → AB P N c Q s h := by
  intro n
  induction n using Nat.strongRecOn with
  | _ n ih =>
    intro c s h rs Q hr hQ
    cases n with
    | zero => simp [exec2] at hr
    | succ n =>
      cases c <;> simp only [exec2] at hr
      case skip => injection hr with hr; subst hr; exact AB.skip (hQ (.normal, s, h) (by simp))
      case region id ops draw =>
        obtain ⟨l⟩ := ops
        split at hr
        · rename_i hd
          subst hd
          simp only [Option.map_eq_some_iff] at hr
          obtain ⟨ps, hp, rfl⟩ := hr
          exact AB.rd F G hm (drawRun_sound hO _ _ _ _ ps hp (fun p hp' => hQ (.normal, p.1, p.2) (List.mem_map.2 ⟨p, hp', rfl⟩)))
        · rename_i hd
          obtain rfl : draw = false := by simpa using hd
          simp only [Option.map_eq_some_iff] at hr
          obtain ⟨p, hp, rfl⟩ := hr
          exact AB.rw (opsW_of hO l s h p hp (hQ (.normal, p.1, p.2) (by simp)))
      case seq a b =>
        split at hr
        · cases hr
        · rename_i os ho
          refine AB.seq (ih n (by omega) a s h os _ ho fun r hr' => ?_)
          obtain ⟨q, hq, hm'⟩ := bindL_mem hr r hr'
          obtain ⟨x, s1, h1⟩ := r
          cases x with
          | normal => exact ih n (by omega) b s1 h1 q Q hq (fun z hz => hQ z (hm' z hz))
          | exit i => simp only [Option.some.injEq] at hq; subst hq; exact hQ (.exit i, s1, h1) (hm' _ (by simp))
          | ret => simp only [Option.some.injEq] at hq; subst hq; exact hQ (.ret, s1, h1) (hm' _ (by simp))
      case cond c x y =>
        split at hr
        · rename_i hc; exact AB.cond hc (fun _ => ih n (by omega) x s h rs Q hr hQ) (fun hh => by cases hh)
        · rename_i hc; exact AB.cond hc (fun hh => by cases hh) (fun _ => ih n (by omega) y s h rs Q hr hQ)
        · cases hr
      case block id c =>
        simp only [Option.map_eq_some_iff] at hr
        obtain ⟨os, ho, rfl⟩ := hr
        refine AB.block (ih n (by omega) c s h os _ ho fun r hr' => ?_)
        have := hQ _ (List.mem_map.2 ⟨r, hr', rfl⟩)
        obtain ⟨x, s1, h1⟩ := r
        cases x with
        | normal => exact this
        | ret => exact this
        | exit i =>
          simp only [closeEx] at this
          simp only [Ex.inBlock]
          split at this
          · rename_i hi; rw [if_pos hi]; exact this
          · rename_i hi; rw [if_neg hi]; exact this
      case loop c =>
        have h0 : exec2 P F G O (n + 1) (.loop c) s h = some rs := by simp only [exec2]; exact hr
        refine AB.loop (fun m s h => m ≤ n + 1 ∧ ∃ rs, exec2 P F G O m (.loop c) s h = some rs ∧ ∀ r ∈ rs, Q r.1 r.2.1 r.2.2) ⟨Nat.le_refl _, rs, h0, hQ⟩ ?_
        rintro m s1 h1 ⟨hm', rs1, he, hQ1⟩
        cases m with
        | zero => simp [exec2] at he
        | succ m =>
          simp only [exec2] at he
          split at he
          · cases he
          · rename_i os ho
            refine ih m (by omega) c s1 h1 os _ ho fun r hr' => ?_
            obtain ⟨q, hq, hmm⟩ := bindL_mem he r hr'
            obtain ⟨x, s2, h2⟩ := r
            cases x with
            | normal => exact ⟨m, by omega, by omega, q, hq, fun z hz => hQ1 z (hmm z hz)⟩
            | exit i => simp only [Option.some.injEq] at hq; subst hq; exact hQ1 (.exit i, s2, h2) (hmm _ (by simp))
            | ret => simp only [Option.some.injEq] at hq; subst hq; exact hQ1 (.ret, s2, h2) (hmm _ (by simp))
      case exit id => injection hr with hr; subst hr; exact AB.exit (hQ (.exit id, s, h) (by simp))
      case ret => injection hr with hr; subst hr; exact AB.ret (hQ (.ret, s, h) (by simp))
      all_goals cases hr
/-- The ends of a function's body. -/
def ends (P : Program) (F G : FuncId → Bool) (O : Orc) (n : Nat) (f : FuncId) (h : Hp) (args : List V) : Option (List (Option (V × Hp))) :=
  match P.funcs[f]? with
  | none => none
  | some fn => match fn.body with
    | none => none
    | some c => if fn.name == "runtime.NumGoroutine" || !(Nat.ble args.length fn.ntmps) then none else
      (exec2 P F G O n c (mkF fn.ntmps (num 0 args)) h).map (List.map fun r => match r.1 with
        | .exit _ => none
        | _ => (resV P fn r.2.1 r.2.2).map fun v => (v, r.2.2))
def evalG (P : Program) (F G : FuncId → Bool) : Nat → Orc
  | 0, _, _, _ => none
  | n + 1, f, h, args => match ends P F G (evalG P F G n) n f h args with
    | some [some r] => some r
    | _ => none
theorem evalG_ok (hm : P.follows .mixedOrders = true) : ∀ n, OrcOk P (evalG P F G n)
  | 0 => fun f h args r h' hh => by cases hh
  | n + 1 => fun f h args r h' hh => by
    simp only [evalG] at hh
    split at hh
    · rename_i p hp
      injection hh with hh
      subst hh
      unfold ends at hp
      split at hp
      · cases hp
      · rename_i fn hf
        split at hp
        · cases hp
        · rename_i c hb
          split at hp
          · cases hp
          · rename_i hn
            simp only [Bool.or_eq_true, not_or, Bool.not_eq_true, Bool.not_eq_false'] at hn
            simp only [Option.map_eq_some_iff] at hp
            obtain ⟨rs, hrs, hmap⟩ := hp
            refine fn_ab (fn := fn) (n := fn.ntmps) hf hb hn.1 rfl (Nat.le_of_ble_eq_true (by simpa using hn.2)) rfl rfl (exec2_sound (evalG_ok hm n) hm n c _ h rs _ hrs fun q hq => ?_)
            have hmem : (match q.1 with | .exit _ => none | _ => (resV P fn q.2.1 q.2.2).map fun v => (v, q.2.2)) ∈ [some (r, h')] := by
              rw [← hmap]; exact List.mem_map.2 ⟨q, hq, rfl⟩
            obtain ⟨x, s1, h1⟩ := q
            simp only [List.mem_singleton] at hmem
            cases x with
            | exit i => cases hmem
            | normal =>
              simp only [Option.map_eq_some_iff, Prod.mk.injEq] at hmem
              obtain ⟨v, hv, rfl, rfl⟩ := hmem
              exact done_norm hv (Ghost.weak (FLe.same rfl FLe.nil))
            | ret =>
              simp only [Option.map_eq_some_iff, Prod.mk.injEq] at hmem
              obtain ⟨v, hv, rfl, rfl⟩ := hmem
              exact done_ret hv (Ghost.weak (FLe.same rfl FLe.nil))
    · cases hh
theorem pfn_of_ab {f : FuncId} {fn : Func} {c : Code} {args : List V} {r : V} (hf : P.funcs[f]? = some fn) (hb : fn.body = some c) (hn : (fn.name == "runtime.NumGoroutine") = false) (hal : args.length ≤ fn.ntmps)
    (hh : AB P 0 c (fun x s' h'' => (∀ id, x ≠ .exit id) ∧ (resV P fn s' h'').bind (expV h'') = some r) (mkF fn.ntmps (num 0 args)) []) : PFn P f args r := by
  intro A w vs hA hGl hargs
  refine .inl ⟨run_enter hf (by rw [hb]; rfl) hn _ _, calls_of_wp hf hb ?_⟩
  have hargs' : VCells (Xs A [] []) [] w args vs := hargs.avoid fun g _ hx => Xs_nil.1 hx
  have R0 := frame_rel (fn := fn) (HR.nil hA hGl) hargs'
  have R1 : Rel A [] (mkF fn.ntmps (num 0 args)) [] { tmps := vs.toArray ++ Array.replicate (fn.ntmps - vs.toArray.size) undef, defers := [] } w := by
    refine ⟨R0.hr, ⟨?_, fun t x hx => ?_⟩, R0.defers⟩
    · rw [mkF_len, ← R0.sr.len]
      simp [frame0]; omega
    · have ht : t < fn.ntmps := by have := (List.getElem?_eq_some_iff.1 hx).1; rw [mkF_len] at this; exact this
      rw [mkF_get ht] at hx
      injection hx with hx
      cases hl : look (num 0 args) t with
      | none => rw [hl] at hx; subst hx; unfold VR; trivial
      | some z =>
        rw [hl] at hx
        subst hx
        obtain ⟨_, h2⟩ := num_look hl
        refine R0.sr.val t z ?_
        unfold frame0
        rw [List.getElem?_append_left (by have := (List.getElem?_eq_some_iff.1 h2).1; omega)]
        simpa using h2
  refine Code.wp_mono (fun e a' w' ⟨x, s1, h1, M1, he, ⟨hx, hres⟩, G, R2⟩ => ?_) (hh A [] [] [] w _ w rfl rfl (Grow.refl (HR.nil hA hGl)) R1)
  subst he
  simp only [Option.bind_eq_some_iff] at hres
  obtain ⟨r0, hr0, hex⟩ := hres
  obtain ⟨v, hv, hr⟩ := resV_sound R2 hr0
  have hfin : Ext (fun _ => False) w w' ∧ VR A [] w' r v :=
    ⟨G.ext.mono fun g _ hl => by obtain ⟨b, B, hb, _⟩ := hl; simp at hb, expV_sound R2.hr hr hex⟩
  cases x with
  | normal => exact ⟨R2.defers, v, hv, v, rfl, hfin⟩
  | ret => exact ⟨R2.defers, v, hv, v, rfl, hfin⟩
  | exit id => exact absurd rfl (hx id)
/-- A call whose ends all read the same. -/
def endsR (P : Program) (F G : FuncId → Bool) (O : Orc) (n : Nat) (f : FuncId) (args : List V) (r : V) : Bool :=
  match ends P F G O n f [] args with
  | none => false
  | some os => os.all fun o => match o with
    | none => false
    | some p => match expV p.2 p.1 with
      | none => false
      | some v => eqV v r
theorem pfn_ends (hO : OrcOk P O) (hm : P.follows .mixedOrders = true) {n : Nat} {f : FuncId} {args : List V} {r : V} (he : endsR P F G O n f args r = true) : PFn P f args r := by
  unfold endsR at he
  split at he
  · cases he
  · rename_i os hp
    unfold ends at hp
    split at hp
    · cases hp
    · rename_i fn hf
      split at hp
      · cases hp
      · rename_i c hb
        split at hp
        · cases hp
        · rename_i hn
          simp only [Bool.or_eq_true, not_or, Bool.not_eq_true, Bool.not_eq_false'] at hn
          simp only [Option.map_eq_some_iff] at hp
          obtain ⟨rs, hrs, hmap⟩ := hp
          have hab : AB P 0 c (fun x s' h'' => (∀ id, x ≠ .exit id) ∧ (resV P fn s' h'').bind (expV h'') = some r) (mkF fn.ntmps (num 0 args)) [] := exec2_sound hO hm n c _ [] rs _ hrs fun q hq => by
            have hmem : (match q.1 with | .exit _ => none | _ => (resV P fn q.2.1 q.2.2).map fun v => (v, q.2.2)) ∈ os := by
              rw [← hmap]; exact List.mem_map.2 ⟨q, hq, rfl⟩
            have h1 := List.all_eq_true.1 he _ hmem
            obtain ⟨x, s1, h1'⟩ := q
            cases x with
            | exit i => cases h1
            | normal =>
              refine ⟨fun id hh => (by cases hh), ?_⟩
              simp only at h1 ⊢
              cases hv : resV P fn s1 h1' with
              | none => rw [hv] at h1; cases h1
              | some v =>
                rw [hv] at h1
                simp only [Option.map_some, Option.bind_some] at h1 ⊢
                cases hx : expV h1' v with
                | none => rw [hx] at h1; cases h1
                | some u => rw [hx] at h1; rw [eqV_eq _ _ h1]
            | ret =>
              refine ⟨fun id hh => (by cases hh), ?_⟩
              simp only at h1 ⊢
              cases hv : resV P fn s1 h1' with
              | none => rw [hv] at h1; cases h1
              | some v =>
                rw [hv] at h1
                simp only [Option.map_some, Option.bind_some] at h1 ⊢
                cases hx : expV h1' v with
                | none => rw [hx] at h1; cases h1
                | some u => rw [hx] at h1; rw [eqV_eq _ _ h1]
          exact pfn_of_ab hf hb hn.1 (Nat.le_of_ble_eq_true (by simpa using hn.2)) hab
/-- One call more. -/
def addO (O : Orc) (f : FuncId) (ys : List V) (r : V) : Orc := fun k h xs => if k = f then (match xs.mapM (expV h) with
  | none => none
  | some zs => if eqVs zs ys then some (r, h.map fun _ => none) else none) else O k h xs
theorem addO_ok (hO : OrcOk P O) {f : FuncId} {ys : List V} {r : V} (hp : PFn P f ys r) : OrcOk P (addO O f ys r) := fun k h xs v h' hh => by
  unfold addO at hh
  split at hh
  · rename_i hk
    subst hk
    split at hh
    · cases hh
    · rename_i zs hz
      split at hh
      · rename_i he
        have := eqVs_eq _ _ he
        subst this
        simp only [Option.some.injEq, Prod.mk.injEq] at hh
        obtain ⟨rfl, rfl⟩ := hh
        exact fn_kill hp hz
      · cases hh
  · exact hO k h xs v h' hh
end
end Go.Vm
