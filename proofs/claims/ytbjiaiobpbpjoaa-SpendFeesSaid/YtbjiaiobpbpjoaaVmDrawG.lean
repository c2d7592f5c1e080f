import Derived.Test.YtbjiaiobpbpjoaaVmBrw
set_option linter.unusedSimpArgs false
set_option linter.unusedVariables false
namespace Go.Vm
open Go

/-! ### Drawn regions in which several operations make blocks -/
/-- Functions that only add blocks. -/
def Grows (O : Orc) (G : FuncId → Bool) : Prop := ∀ f h args r h', G f = true → O f h args = some (r, h') → ∃ news, h' = h ++ news
def growOp (G : FuncId → Bool) (o : Oper) : Bool :=
  allocOp o || (match o.op with
    | .call c => match c.callee with
      | .value (.func f) => G f
      | _ => false
    | _ => false)
def pairG (F G : FuncId → Bool) (ops : Array Oper) (oj oi : Oper) : Bool :=
  oj.apart ops oi && ((stillOp F oj && stillOp F oi) || (growOp G oj && still0 oi) || (still0 oj && growOp G oi))
section
variable {P : Program} {O O' : Orc} {F G : FuncId → Bool} {s : List V} {h h' : Hp} {ops : Array Oper}
theorem inScope.mono {n m : Nat} (hnm : n ≤ m) {z : V} (hz : inScope n z) : inScope m z := by
  cases z <;> first | trivial | exact Nat.lt_of_lt_of_le hz hnm
theorem Scoped.mono {n m : Nat} (hnm : n ≤ m) {o : Oper} (hs : Scoped s o n) : Scoped s o m := fun y hy z hz => (hs y hy z hz).mono hnm
theorem stepVal_apps {o : Oper} (hs : still0 o = true) : ∀ (news : Hp) {h : Hp}, Scoped s o h.length → stepVal P O ops o s (h ++ news) = (stepVal P O ops o s h).map fun p => (p.1, h ++ news)
  | [], h, hsc => by
    simp only [List.append_nil]
    cases hv : stepVal P O ops o s h with
    | none => rfl
    | some p =>
      obtain ⟨v, g⟩ := p
      obtain rfl : g = h := stepVal_same (F := fun _ => false) (fun _ _ _ _ _ hf => by cases hf) hs hv
      rfl
  | x :: news, h, hsc => by
    have e1 : h ++ x :: news = (h ++ [x]) ++ news := by simp
    rw [e1, stepVal_apps hs news (hsc.mono (by simp)), stepVal_app hs hsc]
    cases stepVal P O ops o s h <;> rfl
theorem stepVal_grow (hG : Grows O G) {o : Oper} (hg : growOp G o = true) {r : V} (hr : stepVal P O ops o s h = some (r, h')) : ∃ news, h' = h ++ news := by
  unfold stepVal at hr
  split at hr
  · rename_i hw
    clear hw
    simp only [growOp, Bool.or_eq_true] at hg
    rcases hg with hg | hg
    · obtain ⟨B, hB⟩ := alloc_form hg hr; exact ⟨_, hB⟩
    · obtain ⟨dst, op, type, pos, after, guard⟩ := o
      cases op <;> simp only [Bool.false_eq_true] at hg
      case call c =>
        obtain ⟨callee, args, argTypes⟩ := c
        cases callee <;> simp only [Bool.false_eq_true] at hg
        case value f =>
          cases f <;> simp only [Bool.false_eq_true] at hg
          case func f =>
            simp only [absOp, callV] at hr
            split at hr
            · cases hr
            · exact hG _ _ _ _ _ hg hr
  · simp only [Option.some.injEq, Prod.mk.injEq] at hr; exact ⟨[], by simp [hr.2]⟩
  · cases hr
/-- One step, by whatever contracts. -/
def StepR (P : Program) (F G : FuncId → Bool) (ops : Array Oper) (o : Oper) (s : List V) (h : Hp) (s1 : List V) (h1 : Hp) : Prop :=
  ∃ O, OrcOk P O ∧ Stills O F ∧ Grows O G ∧ absStep P O ops o s h = some (s1, h1)
theorem StepR.comm {oj oi : Oper} (hp : pairG F G ops oj oi = true) (hsi : Scoped s oi h.length) (hsj : Scoped s oj h.length) {s1 s2 : List V} {h1 h2 : Hp}
    (e1 : StepR P F G ops oj s h s1 h1) (e2 : StepR P F G ops oi s1 h1 s2 h2) : ∃ s3 h3, StepR P F G ops oi s h s3 h3 ∧ StepR P F G ops oj s3 h3 s2 h2 := by
  obtain ⟨O1, ok1, hF1, hG1, e1⟩ := e1
  obtain ⟨O2, ok2, hF2, hG2, e2⟩ := e2
  simp only [pairG, Bool.and_eq_true, Bool.or_eq_true] at hp
  obtain ⟨hap, hp⟩ := hp
  obtain ⟨a1, a2, a3⟩ := Oper.apart_spec hap
  rw [absStep_eq] at e1 e2
  simp only [Option.map_eq_some_iff, Prod.mk.injEq] at e1 e2
  obtain ⟨⟨v1, g1⟩, f1, rfl, rfl⟩ := e1
  obtain ⟨⟨v2, g2⟩, f2, rfl, rfl⟩ := e2
  simp only at f1 f2 ⊢
  rw [stepVal_put oi _ _ a1] at f2
  rcases hp with (⟨hj, hi⟩ | ⟨hj, hi⟩) | ⟨hj, hi⟩
  · obtain rfl := stepVal_same hF1 hj f1
    obtain rfl := stepVal_same hF2 hi f2
    refine ⟨putV s oi.dst v2, _, ⟨O2, ok2, hF2, hG2, by rw [absStep_eq, f2]; rfl⟩, O1, ok1, hF1, hG1, ?_⟩
    rw [absStep_eq, stepVal_put oj _ _ a3, f1]
    simp only [Option.map_some]
    rw [putV_comm s v1 v2 a2]
  · obtain ⟨news, rfl⟩ := stepVal_grow hG1 hj f1
    rw [stepVal_apps hi news hsi] at f2
    simp only [Option.map_eq_some_iff, Prod.mk.injEq] at f2
    obtain ⟨⟨v3, g3⟩, f3, rfl, rfl⟩ := f2
    obtain rfl : g3 = h := stepVal_same (F := fun _ => false) (fun _ _ _ _ _ hf => by cases hf) hi f3
    refine ⟨putV s oi.dst v3, g3, ⟨O2, ok2, hF2, hG2, by rw [absStep_eq, f3]; rfl⟩, O1, ok1, hF1, hG1, ?_⟩
    rw [absStep_eq, stepVal_put oj _ _ a3, f1]
    simp only [Option.map_some]
    rw [putV_comm s v1 v3 a2]
  · obtain rfl : g1 = h := stepVal_same (F := fun _ => false) (fun _ _ _ _ _ hf => by cases hf) hj f1
    refine ⟨putV s oi.dst v2, g2, ⟨O2, ok2, hF2, hG2, by rw [absStep_eq, f2]; rfl⟩, O1, ok1, hF1, hG1, ?_⟩
    obtain ⟨news, rfl⟩ := stepVal_grow hG2 hi f2
    rw [absStep_eq, stepVal_put oj _ _ a3, stepVal_apps hj news hsj, f1]
    simp only [Option.map_some]
    rw [putV_comm s v1 v2 a2]
/-- The state belongs to some world. -/
def Real (s : List V) (h : Hp) : Prop := ∃ A M a w, Rel A M s h a w
theorem StepR.real {i : Nat} {o : Oper} (hi : ops[i]? = some o) {s1 : List V} {h1 : Hp} (hr : Real s h) (e : StepR P F G ops o s h s1 h1) : Real s1 h1 := by
  obtain ⟨A, M, a, w, R⟩ := hr
  obtain ⟨O, ok, _, _, e⟩ := e
  obtain ⟨a', w', M', R'⟩ := wpOp_exists (step_sound (Q := fun _ _ _ => False) ok R hi e (K := fun a' w' => ∃ M', Rel A M' s1 h1 a' w') fun a' w' M' _ R' => ⟨M', R'⟩)
  exact ⟨A, M', a', w', R'⟩
/-- Whatever order is drawn from here on, it goes well. -/
def Good (P : Program) (F G : FuncId → Bool) (ops : Array Oper) (K : List V → Hp → Prop) : Nat → Array Bool → List V → Hp → Prop
  | 0, listed, s, h => remOf ops.size listed = [] ∧ K s h
  | n + 1, listed, s, h => Real s h → Region.ready .any ops listed ≠ [] ∧ ∀ i ∈ Region.ready .any ops listed, ∃ o s1 h1, ops[i]? = some o ∧ StepR P F G ops o s h s1 h1 ∧ Good P F G ops K n (listed.setIfInBounds i true) s1 h1
theorem ready_rem {listed : Array Bool} {i : Nat} (hi : i ∈ Region.ready .any ops listed) : i ∈ remOf ops.size listed := by
  obtain ⟨h1, o, ho, _⟩ := mem_ready.1 hi
  simp only [remOf, List.mem_filter, List.mem_range]
  exact ⟨(Array.getElem?_eq_some_iff.1 ho).1, by simp [h1]⟩
theorem Good.sound {A : Nat → Prop} {M0 : List (Option Nat)} {h0 : Hp} {w0 : World} {K : List V → Hp → Prop} {Q : Exit → Act → World → Prop} :
    ∀ (n : Nat) (listed : Array Bool) {M : List (Option Nat)} {s : List V} {h : Hp} {a : Act} {w : World}, Good P F G ops K n listed s h → Grow A M0 h0 w0 M h w → Rel A M s h a w →
    (∀ s' h' M' a' w', K s' h' → Grow A M0 h0 w0 M' h' w' → Rel A M' s' h' a' w' → Q .normal a' w') → wpAny P .any ops Q n listed a w
  | 0, listed, M, s, h, a, w, hg, Gr, R, hQ => by
    obtain ⟨hnil, hk⟩ := hg
    refine ⟨?_, hQ s h M a w hk Gr R⟩
    apply List.eq_nil_iff_forall_not_mem.2
    intro i hi
    have := ready_rem hi
    rw [hnil] at this
    cases this
  | n + 1, listed, M, s, h, a, w, hg, Gr, R, hQ => by
    obtain ⟨hne, hall⟩ := hg ⟨A, M, a, w, R⟩
    refine ⟨fun hn => absurd hn hne, fun i hi => ?_⟩
    obtain ⟨o, s1, h1, ho, ⟨O, ok, _, _, e⟩, hg'⟩ := hall i hi
    refine step_sound ok R ho e fun a' w' M' G' R' => ?_
    exact Good.sound n _ hg' (Gr.trans G') R' hQ
/-- Operation i may be taken first. -/
def pickOk (F G : FuncId → Bool) (ops : Array Oper) (listed : Array Bool) (i : Nat) : Bool :=
  (Region.ready .any ops listed).contains i && (match ops[i]? with
    | none => false
    | some oi => (List.range ops.size).all fun j => (j == i) || listed.getD j true || (match ops[j]? with
      | none => true
      | some oj => pairG F G ops oi oj || (ancL ops j j [j]).contains i))
theorem getD_set_self {listed : Array Bool} {i : Nat} (d : Bool) (hi : i < listed.size) : (listed.setIfInBounds i true).getD i d = true := by simp [hi]
theorem set_comm_true (listed : Array Bool) (i j : Nat) : (listed.setIfInBounds i true).setIfInBounds j true = (listed.setIfInBounds j true).setIfInBounds i true := by
  by_cases hij : i = j
  · subst hij; rfl
  · apply Array.ext'
    apply List.ext_getElem?
    intro k
    simp only [Array.getElem?_toList, Array.getElem?_setIfInBounds]
    by_cases h1 : i = k <;> by_cases h2 : j = k <;> simp_all
theorem Good.pick {K : List V → Hp → Prop} : ∀ (n : Nat) {listed : Array Bool} {s : List V} {h : Hp} {i : Nat} {oi : Oper} {s1 : List V} {h1 : Hp}, listed.size = ops.size → Closed ops listed → pickOk F G ops listed i = true → ops[i]? = some oi → StepR P F G ops oi s h s1 h1 →
    Good P F G ops K n (listed.setIfInBounds i true) s1 h1 → Good P F G ops K (n + 1) listed s h
  | 0, listed, s, h, i, oi, s1, h1, hsz, hc, hp, hoi, e, hg => by
    intro hr
    simp only [pickOk, Bool.and_eq_true] at hp
    have hi : i ∈ Region.ready .any ops listed := by simpa using hp.1
    refine ⟨(fun hn => by rw [hn] at hi; cases hi), fun j hj => ?_⟩
    by_cases hij : i = j
    · subst hij; exact ⟨oi, s1, h1, hoi, e, hg⟩
    · exfalso
      obtain ⟨hun, oj, hoj, _⟩ := mem_ready.1 hj
      have : j ∈ remOf ops.size (listed.setIfInBounds i true) := by
        simp only [remOf, List.mem_filter, List.mem_range]
        exact ⟨(Array.getElem?_eq_some_iff.1 hoj).1, by rw [getD_set_ne true hij, hun]; rfl⟩
      rw [hg.1] at this
      cases this
  | n + 1, listed, s, h, i, oi, s1, h1, hsz, hc, hp, hoi, e, hg => by
    intro hr
    have hp0 := hp
    simp only [pickOk, Bool.and_eq_true] at hp
    have hi : i ∈ Region.ready .any ops listed := by simpa using hp.1
    obtain ⟨huni, _, hoi', hprei⟩ := mem_ready.1 hi
    obtain rfl : oi = _ := Option.some.inj (hoi.symm.trans hoi')
    refine ⟨(fun hn => by rw [hn] at hi; cases hi), fun j hj => ?_⟩
    by_cases hij : i = j
    · subst hij; exact ⟨oi, s1, h1, hoi, e, hg⟩
    obtain ⟨hunj, oj, hoj, hprej⟩ := mem_ready.1 hj
    have hjn : j < ops.size := (Array.getElem?_eq_some_iff.1 hoj).1
    have hin : i < ops.size := (Array.getElem?_eq_some_iff.1 hoi).1
    -- j is ready behind i too
    have hj' : j ∈ Region.ready .any ops (listed.setIfInBounds i true) := mem_ready.2 ⟨by rw [getD_set_ne true hij]; exact hunj, oj, hoj, fun ed he hb => getD_set_true (hprej ed he hb)⟩
    have hr1 : Real s1 h1 := e.real hoi hr
    obtain ⟨_, hall⟩ := hg hr1
    obtain ⟨oj', s2, h2, hoj', e2, hg2⟩ := hall j hj'
    obtain rfl : oj = oj' := Option.some.inj (hoj.symm.trans hoj')
    -- they commute
    have hpair : pairG F G ops oi oj = true := by
      rw [hoi] at hp
      have h3 := List.all_eq_true.1 hp.2 j (by simpa using hjn)
      simp only [hoj, Bool.or_eq_true, beq_iff_eq] at h3
      rcases h3 with (h3 | h3) | (h3 | h3)
      · exact absurd h3.symm hij
      · rw [hunj] at h3; cases h3
      · exact h3
      · exfalso
        rcases ancL_listed hc hoj hprej j [j] (by simp) i (by simpa using h3) with h4 | h4
        · exact hij h4
        · have := getD_both huni
          rw [h4] at this; cases this
    obtain ⟨A, M, a, w, R⟩ := hr
    have hsc := R.scopeOk
    obtain ⟨s3, h3, f1, f2⟩ := StepR.comm hpair (hsc.op oj) (hsc.op oi) e e2
    refine ⟨oj, s3, h3, hoj, f1, ?_⟩
    have hc' : Closed ops (listed.setIfInBounds j true) := by
      intro k ok hk hl ed he hb
      by_cases hjk : j = k
      · subst hjk
        obtain rfl : ok = oj := Option.some.inj (hk.symm.trans hoj)
        exact getD_set_true (hprej ed he hb)
      · rw [getD_set_ne false hjk] at hl
        exact getD_set_true (hc k ok hk hl ed he hb)
    have hp' : pickOk F G ops (listed.setIfInBounds j true) i = true := by
      have hi2 : i ∈ Region.ready .any ops (listed.setIfInBounds j true) := mem_ready.2 ⟨by rw [getD_set_ne true (Ne.symm hij)]; exact huni, oi, hoi, fun ed he hb => getD_set_true (hprei ed he hb)⟩
      simp only [pickOk, Bool.and_eq_true, hoi]
      refine ⟨by simpa using hi2, List.all_eq_true.2 fun k hk => ?_⟩
      rw [hoi] at hp
      have h3 := List.all_eq_true.1 hp.2 k hk
      simp only [Bool.or_eq_true] at h3 ⊢
      rcases h3 with (h3 | h3) | h3
      · exact .inl (.inl h3)
      · refine .inl (.inr ?_)
        by_cases hjk : j = k
        · subst hjk; exact getD_set_self true (by rw [hsz]; exact hjn)
        · rw [getD_set_ne true hjk]; exact h3
      · exact .inr h3
    refine Good.pick n (by simpa using hsz) hc' hp' hoi f2 ?_
    rw [set_comm_true]
    exact hg2

/-! ### The walk's form -/
/-- A drawn region in the middle: what is listed is done. -/
def DrawG (P : Program) (F G : FuncId → Bool) (ops : Array Oper) (n : Nat) (listed : Array Bool) (s : List V) (h : Hp) (K : List V → Hp → Prop) : Prop := Good P F G ops K n listed s h
def closedB (ops : Array Oper) (listed : Array Bool) : Bool :=
  (List.range ops.size).all fun j => match ops[j]? with
    | none => true
    | some oj => !(listed.getD j false) || oj.after.all fun e => !(Region.binds .any e) || listed.getD e.on false
theorem closedB_spec {listed : Array Bool} (hb : closedB ops listed = true) : Closed ops listed := by
  intro j oj hj hl e he hbi
  have hjn : j < ops.size := (Array.getElem?_eq_some_iff.1 hj).1
  have h1 := List.all_eq_true.1 hb j (by simpa using hjn)
  simp only [hj, hl, Bool.not_true, Bool.false_or] at h1
  have h2 := Array.all_eq_true_iff_forall_mem.1 h1 e he
  simpa [hbi] using h2
variable {n m t : Nat} {fr : List (Nat × V)} {K : List V → Hp → Prop} {op : Op} {ty : TypeId} {pos : String} {aft : Array Edge} {v : V} {gd : Option (Nat × Bool)} {listed : Array Bool} {i : Nat}
theorem DrawG.nil (hr : remOf ops.size listed = []) (hk : K s h) : DrawG P F G ops 0 listed s h K := ⟨hr, hk⟩
/-- What a pick asks of the region. -/
def pickAll (F G : FuncId → Bool) (ops : Array Oper) (listed : Array Bool) (i : Nat) : Bool := (listed.size == ops.size) && closedB ops listed && pickOk F G ops listed i
theorem DrawG.pick {o : Oper} {s1 : List V} {h1 : Hp} (hp : pickAll F G ops listed i = true) (ho : ops[i]? = some o) (e : StepR P F G ops o s h s1 h1) (k : DrawG P F G ops n (listed.setIfInBounds i true) s1 h1 K) : DrawG P F G ops (n + 1) listed s h K := by
  simp only [pickAll, Bool.and_eq_true, beq_iff_eq] at hp
  exact Good.pick n hp.1.1 (closedB_spec hp.1.2) hp.2 ho e k
/-- A fork over what is ready. -/
def Fork (P : Program) (F G : FuncId → Bool) (ops : Array Oper) (n : Nat) (listed : Array Bool) (s : List V) (h : Hp) (K : List V → Hp → Prop) : List Nat → Prop
  | [] => True
  | i :: l => (∃ o s1 h1, ops[i]? = some o ∧ StepR P F G ops o s h s1 h1 ∧ DrawG P F G ops n (listed.setIfInBounds i true) s1 h1 K) ∧ Fork P F G ops n listed s h K l
theorem Fork.all : ∀ {l : List Nat}, Fork P F G ops n listed s h K l → ∀ i ∈ l, ∃ o s1 h1, ops[i]? = some o ∧ StepR P F G ops o s h s1 h1 ∧ Good P F G ops K n (listed.setIfInBounds i true) s1 h1
  | [], _, i, hi => by cases hi
  | j :: l, hf, i, hi => by
    rcases List.mem_cons.1 hi with rfl | hi
    · exact hf.1
    · exact Fork.all hf.2 i hi
theorem DrawG.fork (l : List Nat) (hl : Region.ready .any ops listed = l) (hne : l ≠ []) (hf : Fork P F G ops n listed s h K l) : DrawG P F G ops (n + 1) listed s h K := by
  intro _
  rw [hl]
  exact ⟨hne, hf.all⟩
theorem Fork.nil : Fork P F G ops n listed s h K [] := trivial
theorem Fork.cons {l : List Nat} {o : Oper} {s1 : List V} {h1 : Hp} (ho : ops[i]? = some o) (e : StepR P F G ops o s h s1 h1) (k : DrawG P F G ops n (listed.setIfInBounds i true) s1 h1 K) (r : Fork P F G ops n listed s h K l) : Fork P F G ops n listed s h K (i :: l) := ⟨⟨o, s1, h1, ho, e, k⟩, r⟩
theorem noStill : Stills O0 F := fun _ _ _ _ _ _ hh => by cases hh
theorem noGrow : Grows O0 G := fun _ _ _ _ _ _ hh => by cases hh
theorem gS (hs : stepVal P O0 ops ⟨some t, op, ty, pos, aft, gd⟩ (mkF m fr) h = some (v, h')) : StepR P F G ops ⟨some t, op, ty, pos, aft, gd⟩ (mkF m fr) h (mkF m ((t, v) :: fr)) h' :=
  ⟨O0, noOrc, noStill, noGrow, by rw [absStep_eq, hs]; simp only [Option.map_some]; rw [putF]⟩
theorem gN (hs : stepVal P O0 ops ⟨none, op, ty, pos, aft, gd⟩ (mkF m fr) h = some (v, h')) : StepR P F G ops ⟨none, op, ty, pos, aft, gd⟩ (mkF m fr) h (mkF m fr) h' :=
  ⟨O0, noOrc, noStill, noGrow, by rw [absStep_eq, hs]; rfl⟩
/-- A call. -/
theorem gC {f : FuncId} {xs : List V} (hc : Fn P f h xs v h') (hF : F f = true → h' = h) (hG : G f = true → ∃ news, h' = h ++ news) (hs : stepVal P (orc1 f h xs v h') ops ⟨some t, op, ty, pos, aft, gd⟩ (mkF m fr) h = some (v, h')) :
    StepR P F G ops ⟨some t, op, ty, pos, aft, gd⟩ (mkF m fr) h (mkF m ((t, v) :: fr)) h' := by
  refine ⟨orc1 f h xs v h', orc1_ok hc, ?_, ?_, by rw [absStep_eq, hs]; simp only [Option.map_some]; rw [putF]⟩
  · intro k h1 args r1 h2 hk hh
    unfold orc1 at hh
    split at hh
    · rename_i he
      obtain ⟨rfl, rfl, rfl⟩ := he
      simp only [Option.some.injEq, Prod.mk.injEq] at hh
      rw [← hh.2]; exact hF hk
    · cases hh
  · intro k h1 args r1 h2 hk hh
    unfold orc1 at hh
    split at hh
    · rename_i he
      obtain ⟨rfl, rfl, rfl⟩ := he
      simp only [Option.some.injEq, Prod.mk.injEq] at hh
      rw [← hh.2]; exact hG hk
    · cases hh
def memF (l : List Nat) : FuncId → Bool := fun f => l.elem f
end
theorem AB.rd {P : Program} {N : Nat} {Q : Ex → List V → Hp → Prop} {s : List V} {h : Hp} (F G : FuncId → Bool) (hm : P.follows .mixedOrders = true) {id : Nat} {l : List Oper} (hr : DrawG P F G l.toArray l.toArray.size (Array.replicate l.toArray.size false) s h (Q .normal)) : AB P N (.region id l.toArray true) Q s h := by
  intro A M0 M h0 w0 a w hN hM Gr R
  refine wp_region_any hm ?_
  have R' : Rel A M s h a w.drew := ⟨R.hr.drew, SR.keep (Grow.drew R.hr) R.sr, R.defers⟩
  exact Good.sound _ _ hr (Gr.trans (Grow.drew R.hr)) R' (fun s' h' M' a' w' hk G' R'' => ⟨.normal, s', h', M', rfl, hk, G', R''⟩)
end Go.Vm
