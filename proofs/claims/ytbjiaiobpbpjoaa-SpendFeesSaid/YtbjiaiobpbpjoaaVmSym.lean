import Derived.Test.YtbjiaiobpbpjoaaVmFrame
set_option linter.unusedSimpArgs false
set_option linter.unusedVariables false
namespace Go.Vm
open Go

/-! ### Frames as lists of what is known -/
def look : List (Nat × V) → Nat → Option V
  | [], _ => none
  | (u, x) :: r, t => bif Nat.beq u t then some x else look r t
def mkF (n : Nat) (fr : List (Nat × V)) : List V := (List.range n).map fun t => (look fr t).getD .any
theorem mkF_len (n : Nat) (fr : List (Nat × V)) : (mkF n fr).length = n := by simp [mkF]
theorem mkF_get {n t : Nat} {fr : List (Nat × V)} (h : t < n) : (mkF n fr)[t]? = some ((look fr t).getD .any) := by simp [mkF, h]
def evF (n : Nat) (fr : List (Nat × V)) : Operand → Option V
  | .tmp t => bif Nat.blt t n then look fr t else none
  | .const v => some (ofValue v)
  | .func f => some (.sc (.func (.func f) #[] #[]))
  | .global g => (GT g).map fun e => .eptr [e] 0 0
theorem evF_ev {n : Nat} {fr : List (Nat × V)} {o : Operand} {x : V} (h : evF n fr o = some x) : ev (mkF n fr) o = some x := by
  cases o with
  | tmp t =>
    simp only [evF] at h
    cases hb : Nat.blt t n with
    | false => rw [hb] at h; cases h
    | true =>
      rw [hb] at h
      simp only [cond_true] at h
      have ht : t < n := by have h2 : Nat.ble (t + 1) n = true := hb; exact Nat.le_of_ble_eq_true h2
      simp only [ev]
      rw [mkF_get ht, h]; rfl
  | const v => exact h
  | func f => exact h
  | global g => exact h
theorem putF {n t : Nat} {fr : List (Nat × V)} {x : V} : putV (mkF n fr) (some t) x = mkF n ((t, x) :: fr) := by
  simp only [putV]
  apply List.ext_getElem?
  intro i
  by_cases hi : i < n
  · rw [mkF_get hi]
    by_cases ht : t = i
    · subst ht
      rw [List.getElem?_set_self (by rw [mkF_len]; exact hi)]
      simp [look]
    · rw [List.getElem?_set_ne ht, mkF_get hi]
      have : Nat.beq t i = false := by cases hb : Nat.beq t i with
        | false => rfl
        | true => exact absurd (Nat.eq_of_beq_eq_true hb) ht
      simp [look, this]
  · rw [List.getElem?_eq_none (by rw [List.length_set, mkF_len]; omega), List.getElem?_eq_none (by rw [mkF_len]; omega)]

/-! ### The walk, against the state at the function's beginning -/
/-- From the abstract state (s, h) the code comes to an exit x and a state for which Q holds; the first N names are those of the function's beginning. -/
def AB (P : Program) (N : Nat) (c : Code) (Q : Ex → List V → Hp → Prop) (s : List V) (h : Hp) : Prop :=
  ∀ (A : Nat → Prop) (M0 M : List (Option Nat)) (h0 : Hp) (w0 : World) (a : Act) (w : World), h0.length = N → M0.length = N → Grow A M0 h0 w0 M h w → Rel A M s h a w →
    c.wp P (fun e a' w' => ∃ x s' h' M', e = Ex.toExit x ∧ Q x s' h' ∧ Grow A M0 h0 w0 M' h' w' ∧ Rel A M' s' h' a' w') a w

section
variable {P : Program} {N : Nat} {Q Q' : Ex → List V → Hp → Prop} {s s' : List V} {h h' : Hp}
theorem AB.of {c : Code} (hh : AW P c Q s h) : AB P N c Q s h := fun A M0 M h0 w0 a w _ _ G R =>
  Code.wp_mono (fun e a' w' ⟨x, s', h', M', h1, h2, h3, h4⟩ => ⟨x, s', h', M', h1, h2, G.trans h3, h4⟩) (hh A M a w R)
theorem AB.mono {c : Code} (hh : AB P N c Q s h) (hq : ∀ x s h, Q x s h → Q' x s h) : AB P N c Q' s h := fun A M0 M h0 w0 a w hN hM G R =>
  Code.wp_mono (fun e a' w' ⟨x, s', h', M', h1, h2, h3, h4⟩ => ⟨x, s', h', M', h1, hq _ _ _ h2, h3, h4⟩) (hh A M0 M h0 w0 a w hN hM G R)
theorem AB.skip (hq : Q .normal s h) : AB P N .skip Q s h := AB.of (AW.skip hq)
theorem AB.exit {id : Nat} (hq : Q (.exit id) s h) : AB P N (.exit id) Q s h := AB.of (AW.exit hq)
theorem AB.ret (hq : Q .ret s h) : AB P N .ret Q s h := AB.of (AW.ret hq)
theorem AB.rg (E : Env P) {id : Nat} {l : List Oper} {draw : Bool} (hd : draw = true → drawOk E.F l.toArray = true) (hr : OpsTo P E.O l.toArray l s h (Q .normal)) : AB P N (.region id l.toArray draw) Q s h := AB.of (AW.rg E hd hr)
theorem AB.seq {c d : Code} (hh : AB P N c (Ex.then (AB P N d Q) Q) s h) : AB P N (.seq c d) Q s h := by
  intro A M0 M h0 w0 a w hN hM G R
  refine wp_seq (Code.wp_mono (fun e a' w' ⟨x, s1, h1, M1, he, hq, G1, R1⟩ => ?_) (hh A M0 M h0 w0 a w hN hM G R))
  subst he
  cases x with
  | normal => exact hq A M0 M1 h0 w0 a' w' hN hM G1 R1
  | exit id => exact ⟨.exit id, s1, h1, M1, rfl, hq, G1, R1⟩
  | ret => exact ⟨.ret, s1, h1, M1, rfl, hq, G1, R1⟩
theorem AB.cond {c : Operand} {x y : Code} {t : Bool} (hc : ev s c = some (.sc (.bool t))) (h1 : t = true → AB P N x Q s h) (h2 : t = false → AB P N y Q s h) : AB P N (.cond c x y) Q s h := by
  intro A M0 M h0 w0 a w hN hM G R
  have hv := ev_sound R.hr.glob R.sr hc
  unfold VR at hv
  refine wp_cond hv ?_
  cases t with
  | true => exact h1 rfl A M0 M h0 w0 a w hN hM G R
  | false => exact h2 rfl A M0 M h0 w0 a w hN hM G R
theorem AB.block {id : Nat} {c : Code} (hh : AB P N c (Ex.inBlock id Q) s h) : AB P N (.block id c) Q s h := by
  intro A M0 M h0 w0 a w hN hM G R
  refine wp_block (Code.wp_mono (fun e a' w' ⟨x, s1, h1, M1, he, hq, G, R1⟩ => ?_) (hh A M0 M h0 w0 a w hN hM G R))
  subst he
  cases x with
  | normal => exact ⟨.normal, s1, h1, M1, rfl, hq, G, R1⟩
  | exit i =>
    show Exit.inBlock id _ (.exit i) a' w'
    simp only [Exit.inBlock]
    simp only [Ex.inBlock] at hq
    split
    · rename_i hi; rw [if_pos hi] at hq; exact ⟨.normal, s1, h1, M1, rfl, hq, G, R1⟩
    · rename_i hi; rw [if_neg hi] at hq; exact ⟨.exit i, s1, h1, M1, rfl, hq, G, R1⟩
  | ret => exact ⟨.ret, s1, h1, M1, rfl, hq, G, R1⟩
theorem AB.loop {c : Code} (I : Nat → List V → Hp → Prop) {n : Nat} (h0 : I n s h) (round : ∀ n s h, I n s h → AB P N c (Ex.then (fun s' h' => ∃ m, m < n ∧ I m s' h') Q) s h) : AB P N (.loop c) Q s h := by
  intro A M0 M hh0 w0 a w hN hM G R
  let p : Act → World → Nat → Prop := fun a' w' k => ∃ s' h' M', I k s' h' ∧ Grow A M0 hh0 w0 M' h' w' ∧ Rel A M' s' h' a' w'
  let μ : Act → World → Nat := fun a' w' => Classical.epsilon fun k => p a' w' k ∧ ∀ j, p a' w' j → k ≤ j
  have hμ : ∀ a' w', (∃ k, p a' w' k) → p a' w' (μ a' w') ∧ ∀ j, p a' w' j → μ a' w' ≤ j := fun a' w' hh => Classical.epsilon_spec (least hh)
  refine wp_loop (fun a' w' => ∃ k, p a' w' k) μ ⟨n, s, h, M, h0, G, R⟩ ?_
  intro a1 w1 hI
  obtain ⟨s1, h1, M1, hIk, G1, R1⟩ := (hμ a1 w1 hI).1
  refine Code.wp_mono (fun e a2 w2 ⟨x, s2, h2, M2, he, hq, G2, R2⟩ => ?_) (round _ s1 h1 hIk A M0 M1 hh0 w0 a1 w1 hN hM G1 R1)
  subst he
  cases x with
  | normal =>
    obtain ⟨m, hm, hIm⟩ := hq
    have hex2 : p a2 w2 m := ⟨s2, h2, M2, hIm, G2, R2⟩
    exact ⟨⟨m, hex2⟩, Nat.lt_of_le_of_lt ((hμ a2 w2 ⟨m, hex2⟩).2 m hex2) hm⟩
  | exit id => exact ⟨.exit id, s2, h2, M2, rfl, hq, G2, R2⟩
  | ret => exact ⟨.ret, s2, h2, M2, rfl, hq, G2, R2⟩
/-- The loop's head, by the number of rounds that are left. -/
theorem AB.loopN {c : Code} (I : Nat → List V → Hp → Prop) {n : Nat} (h0 : I n s h) (r0 : ∀ s h, ¬ I 0 s h) (round : ∀ n s h, I (n + 1) s h → AB P N c (Ex.then (I n) Q) s h) : AB P N (.loop c) Q s h := by
  refine AB.loop I h0 fun n s h hI => ?_
  cases n with
  | zero => exact absurd hI (r0 s h)
  | succ n =>
    refine (round n s h hI).mono fun x s h hq => ?_
    cases x with
    | normal => exact ⟨n, Nat.lt_succ_self n, hq⟩
    | exit id => exact hq
    | ret => exact hq
theorem fn_of_ab {f : FuncId} {fn : Func} {c : Code} {args : List V} {r : V} (hf : P.funcs[f]? = some fn) (hb : fn.body = some c) (hn : (fn.name == "runtime.NumGoroutine") = false)
    (hh : AB P h.length c (fun x s' h'' => (∀ id, x ≠ .exit id) ∧ h'' = h' ∧ resV P fn s' h'' = some r) (frame0 fn args) h) : Fn P f h args r h' := by
  intro A M w vs H hargs
  refine .inl ⟨run_enter hf (by rw [hb]; rfl) hn _ _, calls_of_wp hf hb ?_⟩
  refine Code.wp_mono (fun e a' w' ⟨x, s1, h1, M1, he, ⟨hx, hh1, hres⟩, G, R1⟩ => ?_) (hh A M M h w _ w rfl H.len (Grow.refl H) (frame_rel H hargs))
  subst he hh1
  obtain ⟨v, hv, hr⟩ := resV_sound R1 hres
  cases x with
  | normal => exact ⟨R1.defers, v, hv, v, rfl, M1, G, hr⟩
  | ret => exact ⟨R1.defers, v, hv, v, rfl, M1, G, hr⟩
  | exit id => exact absurd rfl (hx id)
end

/-! ### Less is known -/
mutual
/-- Whatever x is, y is too; vn: names of rows that are nil. -/
def V.le (vn : Nat → Bool) : V → V → Prop
  | x, .any => True
  | .row a k es, .row b k' es' => (b = none ∨ a = b) ∧ es = es' ∧ (k = k' ∨ es = [])
  | .row a _ es, .sl b off n _ _ => a = some true ∧ es = [] ∧ vn b = true ∧ off = 0 ∧ n = 0
  | .agg cs, .agg ds => V.les vn cs ds
  | .tup cs, .tup ds => V.les vn cs ds
  | x, y => x = y
def V.les (vn : Nat → Bool) : List V → List V → Prop
  | [], [] => True
  | c :: cs, d :: ds => V.le vn c d ∧ V.les vn cs ds
  | _, _ => False
end
def noN : Nat → Bool := fun _ => false
mutual
theorem V.le_refl (vn : Nat → Bool) : ∀ x : V, V.le vn x x
  | .any => by unfold V.le; trivial
  | .row a k es => by unfold V.le; exact ⟨.inr rfl, rfl, .inl rfl⟩
  | .agg cs => by unfold V.le; exact V.les_refl vn cs
  | .tup cs => by unfold V.le; exact V.les_refl vn cs
  | .sc _ => by unfold V.le; rfl
  | .ptr _ _ => by unfold V.le; rfl
  | .sl _ _ _ _ _ => by unfold V.le; rfl
  | .eptr _ _ _ => by unfold V.le; rfl
  | .mp _ => by unfold V.le; rfl
theorem V.les_refl (vn : Nat → Bool) : ∀ cs : List V, V.les vn cs cs
  | [] => by unfold V.les; trivial
  | c :: cs => by unfold V.les; exact ⟨V.le_refl vn c, V.les_refl vn cs⟩
end
theorem V.le_any (vn : Nat → Bool) (x : V) : V.le vn x .any := by unfold V.le; trivial
theorem V.le_row {vn : Nat → Bool} {a : Option Bool} {k : Nat} {es : List V} : V.le vn (.row a k es) (.row none k es) := by unfold V.le; exact ⟨.inl rfl, rfl, .inl rfl⟩
theorem V.le_nil {vn : Nat → Bool} {a : Option Bool} {k k' : Nat} : V.le vn (.row a k []) (.row none k' []) := by unfold V.le; exact ⟨.inl rfl, rfl, .inr rfl⟩
theorem V.le_virt {vn : Nat → Bool} {k k' b : Nat} {ag : Bool} (hb : vn b = true) : V.le vn (.row (some true) k []) (.sl b 0 0 k' ag) := by unfold V.le; exact ⟨rfl, rfl, hb, rfl, rfl⟩
section
variable {X : Nat → Prop} {M : List (Option Nat)} {w : World} {vn : Nat → Bool}
mutual
theorem V.le_sound (hvn : ∀ b, vn b = true → M[b]? = some none) : ∀ (x y : V) (v : Value), V.le vn x y → VR X M w x v → VR X M w y v
  | x, .any, v, _, _ => by unfold VR; trivial
  | .row a k es, .row b k' es', v, h, hv => by
    unfold V.le at h
    obtain ⟨h1, rfl, h3⟩ := h
    unfold VR at hv ⊢
    obtain ⟨ad, cap, e1, e2, e3, e4, e5, e6⟩ := hv
    refine ⟨ad, cap, e1, e2, e3, ?_, ?_, ?_⟩
    · rcases h1 with rfl | rfl
      · intro b hb; cases hb
      · exact e4
    · rcases h3 with rfl | rfl
      · exact e5
      · simp
    · rcases h3 with rfl | rfl
      · exact e6
      · exact fun hne => absurd rfl hne
  | .row a k es, .sl b off n k' ag, v, h, hv => by
    unfold V.le at h
    obtain ⟨rfl, rfl, h3, rfl, rfl⟩ := h
    unfold VR at hv ⊢
    obtain ⟨ad, cap, e1, e2, e3, e4, e5, e6⟩ := hv
    have hn := e4 true rfl
    cases ad with
    | some ad => simp at hn
    | none =>
      have := e3 rfl
      subst this
      exact .inl ⟨hvn b h3, e1, rfl, rfl⟩
  | .agg cs, .agg ds, v, h, hv => by
    unfold V.le at h
    unfold VR at hv ⊢
    obtain ⟨vs, e1, e2⟩ := hv
    exact ⟨vs, e1, V.les_sound hvn cs ds vs h e2⟩
  | .tup cs, .tup ds, v, h, hv => by
    unfold V.le at h
    unfold VR at hv ⊢
    obtain ⟨vs, e1, e2⟩ := hv
    exact ⟨vs, e1, V.les_sound hvn cs ds vs h e2⟩
  | .sc c, y, v, h, hv => by
    cases y <;> first | (unfold VR; trivial) | (unfold V.le at h; injection h with h; subst h; exact hv) | (unfold V.le at h; cases h)
  | .mp _, y, v, h, hv => by
    cases y <;> first | (unfold VR; trivial) | (unfold V.le at h; injection h with h; subst h; exact hv) | (unfold V.le at h; cases h)
  | .ptr _ _, y, v, h, hv => by
    cases y <;> first | (unfold VR; trivial) | (unfold V.le at h; injection h with h1 h2; subst h1 h2; exact hv) | (unfold V.le at h; cases h)
  | .sl _ _ _ _ _, y, v, h, hv => by
    cases y <;> first | (unfold VR; trivial) | (unfold V.le at h; injection h with h1 h2 h3 h4 h5; subst h1 h2 h3 h4 h5; exact hv) | (unfold V.le at h; cases h)
  | .eptr _ _ _, y, v, h, hv => by
    cases y <;> first | (unfold VR; trivial) | (unfold V.le at h; injection h with h1 h2 h3; subst h1 h2 h3; exact hv) | (unfold V.le at h; cases h)
theorem V.les_sound (hvn : ∀ b, vn b = true → M[b]? = some none) : ∀ (cs ds : List V) (vs : List Value), V.les vn cs ds → VCells X M w cs vs → VCells X M w ds vs
  | [], [], vs, _, hv => hv
  | c :: cs, d :: ds, vs, h, hv => by
    unfold V.les at h
    unfold VCells at hv ⊢
    obtain ⟨v, rest, e1, e2, e3⟩ := hv
    exact ⟨v, rest, e1, V.le_sound hvn c d v h.1 e2, V.les_sound hvn cs ds rest h.2 e3⟩
end
end
end Go.Vm
