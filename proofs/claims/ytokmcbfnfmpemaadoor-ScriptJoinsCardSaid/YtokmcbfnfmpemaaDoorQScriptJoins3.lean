/- Texts of ours, joined: VmDrawG, VmFrz, VmStr, VmArr, VmExt, VmStl, VmEq, VmAis, VmShort, VmCut, Sh, OpenArr, OpenS, Plain1, Plain2. -/
import Derived.Test.YtokmcbfnfmpemaaDoorQScriptJoins2
import Derived.Laws.IdiomStrings
import Derived.ChangeKeysEq
import Derived.Scope
import Derived.OpenShut
set_option linter.unusedSimpArgs false
set_option linter.unusedVariables false
namespace Go.Vm
open Go
def Grows (O : Orc) (G : FuncId → Bool) : Prop := ∀ f h args r h', G f = true → O f h args = some (r, h') → ∃ news, h' = h ++ news
def growOp (G : FuncId → Bool) (o : Oper) : Bool :=
  allocOp o || (match o.op with
    | .call c => match c.callee with
      | .value (.func f) => G f
      | _ => false
    | _ => false)
def Unis (O : Orc) (F : FuncId → Bool) : Prop := ∀ f h args r h', F f = true → O f h args = some (r, h') → ∀ h2, O f h2 args = some (r, h2)
def freeOp (F : FuncId → Bool) (o : Oper) : Bool :=
  match o.op with
  | .move _ | .assign _ | .nilCheck _ | .binOp _ _ _ _ _ | .unOp _ _ _ | .fieldAddr _ _ _ | .field _ _ _ | .indexAddr _ _ _ | .index _ _ _ | .extract _ _ | .sliceToArrayPointer _ _ => true
  | .call c => match c.callee with
    | .value (.func f) => F f
    | _ => false
  | _ => false
def pairG (F G : FuncId → Bool) (ops : Array Oper) (oj oi : Oper) : Bool :=
  oj.apart ops oi && (freeOp F oj || freeOp F oi || (stillOp F oj && stillOp F oi) || (growOp G oj && still0 oi) || (still0 oj && growOp G oi))
section
variable {P : Program} {O O' : Orc} {F G : FuncId → Bool} {s : List V} {h h' : Hp} {ops : Array Oper}
theorem inScope.mono {n m : Nat} (hnm : n ≤ m) {z : V} (hz : inScope n z) : inScope m z := by
  cases z <;> first | trivial | exact Nat.lt_of_lt_of_le hz hnm
theorem Scoped.mono {n m : Nat} (hnm : n ≤ m) {o : Oper} (hs : Scoped s o n) : Scoped s o m := fun y hy z hz => (hs y hy z hz).mono hnm
theorem stepVal_apps {o : Oper} (hs : still0 o = true) : ∀ (news : Hp) {h : Hp}, Scoped s o h.length → stepVal P O ops o s (h ++ news) = (stepVal P O ops o s h).map fun p => (p.1, h ++ news)
  | [], h, hsc => by
    simp only [List.append_nil]
    cases hv : stepVal P O ops o s h with
    | none => rfl
    | some p =>
      obtain ⟨v, g⟩ := p
      obtain rfl : g = h := stepVal_same (F := fun _ => false) (fun _ _ _ _ _ hf => by cases hf) hs hv
      rfl
  | x :: news, h, hsc => by
    have e1 : h ++ x :: news = (h ++ [x]) ++ news := by simp
    rw [e1, stepVal_apps hs news (hsc.mono (by simp)), stepVal_app hs hsc]
    cases stepVal P O ops o s h <;> rfl
theorem stepVal_grow (hG : Grows O G) {o : Oper} (hg : growOp G o = true) {r : V} (hr : stepVal P O ops o s h = some (r, h')) : ∃ news, h' = h ++ news := by
  unfold stepVal at hr
  split at hr
  · rename_i hw
    clear hw
    simp only [growOp, Bool.or_eq_true] at hg
    rcases hg with hg | hg
    · obtain ⟨B, hB⟩ := alloc_form hg hr; exact ⟨_, hB⟩
    · obtain ⟨dst, op, type, pos, after, guard⟩ := o
      cases op <;> simp only [Bool.false_eq_true] at hg
      case call c =>
        obtain ⟨callee, args, argTypes⟩ := c
        cases callee <;> simp only [Bool.false_eq_true] at hg
        case value f =>
          cases f <;> simp only [Bool.false_eq_true] at hg
          case func f =>
            simp only [absOp, callV] at hr
            split at hr
            · cases hr
            · exact hG _ _ _ _ _ hg hr
  · simp only [Option.some.injEq, Prod.mk.injEq] at hr; exact ⟨[], by simp [hr.2]⟩
  · cases hr
theorem free_any (hF : Stills O F) (hU : Unis O F) {o : Oper} (hf : freeOp F o = true) {r : V} (hr : stepVal P O ops o s h = some (r, h')) : h' = h ∧ ∀ h2, stepVal P O ops o s h2 = some (r, h2) := by
  unfold stepVal at hr ⊢
  cases hw : wantedV ops o s with
  | none => rw [hw] at hr; cases hr
  | some b =>
    rw [hw] at hr
    cases b with
    | false =>
      simp only [Option.some.injEq, Prod.mk.injEq] at hr ⊢
      exact ⟨hr.2.symm, fun h2 => ⟨hr.1, trivial⟩⟩
    | true =>
      simp only at hr ⊢
      clear hw
      obtain ⟨dst, op, type, pos, after, guard⟩ := o
      cases op <;> simp only [freeOp, Bool.false_eq_true] at hf
      case call c =>
        obtain ⟨callee, args, argTypes⟩ := c
        cases callee <;> simp only [Bool.false_eq_true] at hf
        case value f =>
          cases f <;> simp only [Bool.false_eq_true] at hf
          case func f =>
            simp only [absOp, callV] at hr ⊢
            cases hx : evs s args.toList with
            | none => rw [hx] at hr; cases hr
            | some xs =>
              rw [hx] at hr
              simp only at hr ⊢
              exact ⟨hF _ _ _ _ _ hf hr, hU _ _ _ _ _ hf hr⟩
      all_goals
        simp only [absOp, Option.bind_eq_some_iff, Option.map_eq_some_iff, Prod.mk.injEq] at hr
        first
          | (obtain ⟨a, ha, rfl, rfl⟩ := hr; exact ⟨rfl, fun h2 => by simp [absOp, ha]⟩)
          | (obtain ⟨a, ha, b, hb, rfl, rfl⟩ := hr; exact ⟨rfl, fun h2 => by simp [absOp, ha, hb]⟩)
          | (obtain ⟨a, ha, b, hb, c, hc, rfl, rfl⟩ := hr; exact ⟨rfl, fun h2 => by simp [absOp, ha, hb, hc]⟩)
def StepR (P : Program) (F G : FuncId → Bool) (ops : Array Oper) (o : Oper) (s : List V) (h : Hp) (s1 : List V) (h1 : Hp) : Prop :=
  ∃ O, OrcOk P O ∧ Stills O F ∧ Grows O G ∧ Unis O F ∧ absStep P O ops o s h = some (s1, h1)
theorem StepR.comm {oj oi : Oper} (hp : pairG F G ops oj oi = true) (hsi : Scoped s oi h.length) (hsj : Scoped s oj h.length) {s1 s2 : List V} {h1 h2 : Hp}
    (e1 : StepR P F G ops oj s h s1 h1) (e2 : StepR P F G ops oi s1 h1 s2 h2) : ∃ s3 h3, StepR P F G ops oi s h s3 h3 ∧ StepR P F G ops oj s3 h3 s2 h2 := by
  obtain ⟨O1, ok1, hF1, hG1, hU1, e1⟩ := e1
  obtain ⟨O2, ok2, hF2, hG2, hU2, e2⟩ := e2
  simp only [pairG, Bool.and_eq_true, Bool.or_eq_true] at hp
  obtain ⟨hap, hp⟩ := hp
  obtain ⟨a1, a2, a3⟩ := Oper.apart_spec hap
  rw [absStep_eq] at e1 e2
  simp only [Option.map_eq_some_iff, Prod.mk.injEq] at e1 e2
  obtain ⟨⟨v1, g1⟩, f1, rfl, rfl⟩ := e1
  obtain ⟨⟨v2, g2⟩, f2, rfl, rfl⟩ := e2
  simp only at f1 f2 ⊢
  rw [stepVal_put oi _ _ a1] at f2
  rcases hp with (((hj | hi) | ⟨hj, hi⟩) | ⟨hj, hi⟩) | ⟨hj, hi⟩
  · obtain ⟨rfl, hall⟩ := free_any hF1 hU1 hj f1
    refine ⟨putV s oi.dst v2, g2, ⟨O2, ok2, hF2, hG2, hU2, by rw [absStep_eq, f2]; rfl⟩, O1, ok1, hF1, hG1, hU1, ?_⟩
    rw [absStep_eq, stepVal_put oj _ _ a3, hall g2]
    simp only [Option.map_some]
    rw [putV_comm s v1 v2 a2]
  · obtain ⟨rfl, hall⟩ := free_any hF2 hU2 hi f2
    refine ⟨putV s oi.dst v2, h, ⟨O2, ok2, hF2, hG2, hU2, by rw [absStep_eq, hall h]; rfl⟩, O1, ok1, hF1, hG1, hU1, ?_⟩
    rw [absStep_eq, stepVal_put oj _ _ a3, f1]
    simp only [Option.map_some]
    rw [putV_comm s v1 v2 a2]
  · obtain rfl := stepVal_same hF1 hj f1
    obtain rfl := stepVal_same hF2 hi f2
    refine ⟨putV s oi.dst v2, _, ⟨O2, ok2, hF2, hG2, hU2, by rw [absStep_eq, f2]; rfl⟩, O1, ok1, hF1, hG1, hU1, ?_⟩
    rw [absStep_eq, stepVal_put oj _ _ a3, f1]
    simp only [Option.map_some]
    rw [putV_comm s v1 v2 a2]
  · obtain ⟨news, rfl⟩ := stepVal_grow hG1 hj f1
    rw [stepVal_apps hi news hsi] at f2
    simp only [Option.map_eq_some_iff, Prod.mk.injEq] at f2
    obtain ⟨⟨v3, g3⟩, f3, rfl, rfl⟩ := f2
    obtain rfl : g3 = h := stepVal_same (F := fun _ => false) (fun _ _ _ _ _ hf => by cases hf) hi f3
    refine ⟨putV s oi.dst v3, g3, ⟨O2, ok2, hF2, hG2, hU2, by rw [absStep_eq, f3]; rfl⟩, O1, ok1, hF1, hG1, hU1, ?_⟩
    rw [absStep_eq, stepVal_put oj _ _ a3, f1]
    simp only [Option.map_some]
    rw [putV_comm s v1 v3 a2]
  · obtain rfl : g1 = h := stepVal_same (F := fun _ => false) (fun _ _ _ _ _ hf => by cases hf) hj f1
    refine ⟨putV s oi.dst v2, g2, ⟨O2, ok2, hF2, hG2, hU2, by rw [absStep_eq, f2]; rfl⟩, O1, ok1, hF1, hG1, hU1, ?_⟩
    obtain ⟨news, rfl⟩ := stepVal_grow hG2 hi f2
    rw [absStep_eq, stepVal_put oj _ _ a3, stepVal_apps hj news hsj, f1]
    simp only [Option.map_some]
    rw [putV_comm s v1 v2 a2]
def Real (s : List V) (h : Hp) : Prop := ∃ A M a w, Rel A M s h a w
theorem StepR.real {i : Nat} {o : Oper} (hi : ops[i]? = some o) {s1 : List V} {h1 : Hp} (hr : Real s h) (e : StepR P F G ops o s h s1 h1) : Real s1 h1 := by
  obtain ⟨A, M, a, w, R⟩ := hr
  obtain ⟨O, ok, _, _, _, e⟩ := e
  obtain ⟨a', w', M', R'⟩ := wpOp_exists (step_sound (Q := fun _ _ _ => False) ok R hi e (K := fun a' w' => ∃ M', Rel A M' s1 h1 a' w') fun a' w' M' _ R' => ⟨M', R'⟩)
  exact ⟨A, M', a', w', R'⟩
def DrawS (P : Program) (N : Nat) (ops : Array Oper) (m : Nat) (listed : Array Bool) (s : List V) (h : Hp) (K : List V → Hp → Prop) : Prop :=
  ∀ (A : Nat → Prop) (M0 M : List (Option Nat)) (h0 : Hp) (w0 : World) (a : Act) (w : World) (Q : Exit → Act → World → Prop), h0.length = N → M0.length = N → Grow A M0 h0 w0 M h w → Rel A M s h a w →
    (∀ s' h' M' a' w', K s' h' → Grow A M0 h0 w0 M' h' w' → Rel A M' s' h' a' w' → Q .normal a' w') → wpAny P .any ops Q m listed a w
def cutB (ops : Array Oper) (listed : Array Bool) : Bool :=
  (List.range ops.size).all fun j => listed.getD j true || (List.range ops.size).all fun i => !(listed.getD i false) || (ancL ops j j [j]).contains i
def Good (P : Program) (N : Nat) (F G : FuncId → Bool) (ops : Array Oper) (K : List V → Hp → Prop) : Nat → Array Bool → List V → Hp → Prop
  | 0, listed, s, h => remOf ops.size listed = [] ∧ K s h
  | n + 1, listed, s, h => (cutB ops listed = true ∧ DrawS P N ops (n + 1) listed s h K) ∨ (Real s h → Region.ready .any ops listed ≠ [] ∧ ∀ i ∈ Region.ready .any ops listed, ∃ o s1 h1, ops[i]? = some o ∧ StepR P F G ops o s h s1 h1 ∧ Good P N F G ops K n (listed.setIfInBounds i true) s1 h1)
theorem ready_rem {listed : Array Bool} {i : Nat} (hi : i ∈ Region.ready .any ops listed) : i ∈ remOf ops.size listed := by
  obtain ⟨h1, o, ho, _⟩ := mem_ready.1 hi
  simp only [remOf, List.mem_filter, List.mem_range]
  exact ⟨(Array.getElem?_eq_some_iff.1 ho).1, by simp [h1]⟩
theorem Good.sound {N : Nat} {A : Nat → Prop} {M0 : List (Option Nat)} {h0 : Hp} (hN : h0.length = N) (hM : M0.length = N) {w0 : World} {K : List V → Hp → Prop} {Q : Exit → Act → World → Prop} :
    ∀ (n : Nat) (listed : Array Bool) {M : List (Option Nat)} {s : List V} {h : Hp} {a : Act} {w : World}, Good P N F G ops K n listed s h → Grow A M0 h0 w0 M h w → Rel A M s h a w →
    (∀ s' h' M' a' w', K s' h' → Grow A M0 h0 w0 M' h' w' → Rel A M' s' h' a' w' → Q .normal a' w') → wpAny P .any ops Q n listed a w
  | 0, listed, M, s, h, a, w, hg, Gr, R, hQ => by
    obtain ⟨hnil, hk⟩ := hg
    refine ⟨?_, hQ s h M a w hk Gr R⟩
    apply List.eq_nil_iff_forall_not_mem.2
    intro i hi
    have := ready_rem hi
    rw [hnil] at this
    cases this
  | n + 1, listed, M, s, h, a, w, hg, Gr, R, hQ => by
    rcases hg with ⟨_, hg⟩ | hg
    · exact hg A M0 M h0 w0 a w Q hN hM Gr R hQ
    obtain ⟨hne, hall⟩ := hg ⟨A, M, a, w, R⟩
    refine ⟨fun hn => absurd hn hne, fun i hi => ?_⟩
    obtain ⟨o, s1, h1, ho, ⟨O, ok, _, _, _, e⟩, hg'⟩ := hall i hi
    refine step_sound ok R ho e fun a' w' M' G' R' => ?_
    exact Good.sound hN hM n _ hg' (Gr.trans G') R' hQ
def pickOk (F G : FuncId → Bool) (ops : Array Oper) (listed : Array Bool) (i : Nat) : Bool :=
  (Region.ready .any ops listed).contains i && (match ops[i]? with
    | none => false
    | some oi => (List.range ops.size).all fun j => (j == i) || listed.getD j true || (match ops[j]? with
      | none => true
      | some oj => pairG F G ops oi oj || (ancL ops j j [j]).contains i))
theorem getD_set_self {listed : Array Bool} {i : Nat} (d : Bool) (hi : i < listed.size) : (listed.setIfInBounds i true).getD i d = true := by simp [hi]
theorem set_comm_true (listed : Array Bool) (i j : Nat) : (listed.setIfInBounds i true).setIfInBounds j true = (listed.setIfInBounds j true).setIfInBounds i true := by
  by_cases hij : i = j
  · subst hij; rfl
  · apply Array.ext'
    apply List.ext_getElem?
    intro k
    simp only [Array.getElem?_toList, Array.getElem?_setIfInBounds]
    by_cases h1 : i = k <;> by_cases h2 : j = k <;> simp_all
theorem cut_ready {listed : Array Bool} {i j : Nat} {oj : Oper} (hi : i < ops.size) (hc : Closed ops listed) (hsz : listed.size = ops.size) (hcut : cutB ops (listed.setIfInBounds i true) = true) (hij : i ≠ j) (huni : listed.getD i true = false) (hunj : listed.getD j true = false) (hoj : ops[j]? = some oj) (hprej : ∀ e ∈ oj.after, Region.binds .any e = true → listed.getD e.on false = true) : False := by
  have hjn : j < ops.size := (Array.getElem?_eq_some_iff.1 hoj).1
  have h1 := List.all_eq_true.1 hcut j (by simpa using hjn)
  rw [getD_set_ne true hij, hunj] at h1
  simp only [Bool.false_or] at h1
  have h2 := List.all_eq_true.1 h1 i (by simpa using hi)
  rw [getD_set_self false (by rw [hsz]; exact hi)] at h2
  simp only [Bool.not_true, Bool.false_or] at h2
  rcases ancL_listed hc hoj hprej j [j] (by simp) i (by simpa using h2) with h4 | h4
  · exact hij h4
  · have := getD_both huni
    rw [h4] at this; cases this
theorem Good.pick {N : Nat} {K : List V → Hp → Prop} : ∀ (n : Nat) {listed : Array Bool} {s : List V} {h : Hp} {i : Nat} {oi : Oper} {s1 : List V} {h1 : Hp}, listed.size = ops.size → Closed ops listed → pickOk F G ops listed i = true → ops[i]? = some oi → StepR P F G ops oi s h s1 h1 →
    Good P N F G ops K n (listed.setIfInBounds i true) s1 h1 → Good P N F G ops K (n + 1) listed s h
  | 0, listed, s, h, i, oi, s1, h1, hsz, hc, hp, hoi, e, hg => by
    refine .inr fun hr => ?_
    simp only [pickOk, Bool.and_eq_true] at hp
    have hi : i ∈ Region.ready .any ops listed := by simpa using hp.1
    refine ⟨(fun hn => by rw [hn] at hi; cases hi), fun j hj => ?_⟩
    by_cases hij : i = j
    · subst hij; exact ⟨oi, s1, h1, hoi, e, hg⟩
    · exfalso
      obtain ⟨hun, oj, hoj, _⟩ := mem_ready.1 hj
      have : j ∈ remOf ops.size (listed.setIfInBounds i true) := by
        simp only [remOf, List.mem_filter, List.mem_range]
        exact ⟨(Array.getElem?_eq_some_iff.1 hoj).1, by rw [getD_set_ne true hij, hun]; rfl⟩
      rw [hg.1] at this
      cases this
  | n + 1, listed, s, h, i, oi, s1, h1, hsz, hc, hp, hoi, e, hg => by
    refine .inr fun hr => ?_
    have hp0 := hp
    simp only [pickOk, Bool.and_eq_true] at hp
    have hi : i ∈ Region.ready .any ops listed := by simpa using hp.1
    obtain ⟨huni, _, hoi', hprei⟩ := mem_ready.1 hi
    obtain rfl : oi = _ := Option.some.inj (hoi.symm.trans hoi')
    refine ⟨(fun hn => by rw [hn] at hi; cases hi), fun j hj => ?_⟩
    by_cases hij : i = j
    · subst hij; exact ⟨oi, s1, h1, hoi, e, hg⟩
    obtain ⟨hunj, oj, hoj, hprej⟩ := mem_ready.1 hj
    have hjn : j < ops.size := (Array.getElem?_eq_some_iff.1 hoj).1
    have hin : i < ops.size := (Array.getElem?_eq_some_iff.1 hoi).1
    have hj' : j ∈ Region.ready .any ops (listed.setIfInBounds i true) := mem_ready.2 ⟨by rw [getD_set_ne true hij]; exact hunj, oj, hoj, fun ed he hb => getD_set_true (hprej ed he hb)⟩
    have hr1 : Real s1 h1 := e.real hoi hr
    rcases hg with ⟨hcut, _⟩ | hg
    · exact (cut_ready hin hc hsz hcut hij huni hunj hoj hprej).elim
    obtain ⟨_, hall⟩ := hg hr1
    obtain ⟨oj', s2, h2, hoj', e2, hg2⟩ := hall j hj'
    obtain rfl : oj = oj' := Option.some.inj (hoj.symm.trans hoj')
    have hpair : pairG F G ops oi oj = true := by
      rw [hoi] at hp
      have h3 := List.all_eq_true.1 hp.2 j (by simpa using hjn)
      simp only [hoj, Bool.or_eq_true, beq_iff_eq] at h3
      rcases h3 with (h3 | h3) | (h3 | h3)
      · exact absurd h3.symm hij
      · rw [hunj] at h3; cases h3
      · exact h3
      · exfalso
        rcases ancL_listed hc hoj hprej j [j] (by simp) i (by simpa using h3) with h4 | h4
        · exact hij h4
        · have := getD_both huni
          rw [h4] at this; cases this
    obtain ⟨A, M, a, w, R⟩ := hr
    have hsc := R.scopeOk
    obtain ⟨s3, h3, f1, f2⟩ := StepR.comm hpair (hsc.op oj) (hsc.op oi) e e2
    refine ⟨oj, s3, h3, hoj, f1, ?_⟩
    have hc' : Closed ops (listed.setIfInBounds j true) := by
      intro k ok hk hl ed he hb
      by_cases hjk : j = k
      · subst hjk
        obtain rfl : ok = oj := Option.some.inj (hk.symm.trans hoj)
        exact getD_set_true (hprej ed he hb)
      · rw [getD_set_ne false hjk] at hl
        exact getD_set_true (hc k ok hk hl ed he hb)
    have hp' : pickOk F G ops (listed.setIfInBounds j true) i = true := by
      have hi2 : i ∈ Region.ready .any ops (listed.setIfInBounds j true) := mem_ready.2 ⟨by rw [getD_set_ne true (Ne.symm hij)]; exact huni, oi, hoi, fun ed he hb => getD_set_true (hprei ed he hb)⟩
      simp only [pickOk, Bool.and_eq_true, hoi]
      refine ⟨by simpa using hi2, List.all_eq_true.2 fun k hk => ?_⟩
      rw [hoi] at hp
      have h3 := List.all_eq_true.1 hp.2 k hk
      simp only [Bool.or_eq_true] at h3 ⊢
      rcases h3 with (h3 | h3) | h3
      · exact .inl (.inl h3)
      · refine .inl (.inr ?_)
        by_cases hjk : j = k
        · subst hjk; exact getD_set_self true (by rw [hsz]; exact hjn)
        · rw [getD_set_ne true hjk]; exact h3
      · exact .inr h3
    refine Good.pick n (by simpa using hsz) hc' hp' hoi f2 ?_
    rw [set_comm_true]
    exact hg2
def DrawG (P : Program) (N : Nat) (F G : FuncId → Bool) (ops : Array Oper) (n : Nat) (listed : Array Bool) (s : List V) (h : Hp) (K : List V → Hp → Prop) : Prop := Good P N F G ops K n listed s h
def closedB (ops : Array Oper) (listed : Array Bool) : Bool :=
  (List.range ops.size).all fun j => match ops[j]? with
    | none => true
    | some oj => !(listed.getD j false) || oj.after.all fun e => !(Region.binds .any e) || listed.getD e.on false
theorem closedB_spec {listed : Array Bool} (hb : closedB ops listed = true) : Closed ops listed := by
  intro j oj hj hl e he hbi
  have hjn : j < ops.size := (Array.getElem?_eq_some_iff.1 hj).1
  have h1 := List.all_eq_true.1 hb j (by simpa using hjn)
  simp only [hj, hl, Bool.not_true, Bool.false_or] at h1
  have h2 := Array.all_eq_true_iff_forall_mem.1 h1 e he
  simpa [hbi] using h2
variable {N n m t : Nat} {fr : List (Nat × V)} {K : List V → Hp → Prop} {op : Op} {ty : TypeId} {pos : String} {aft : Array Edge} {v : V} {gd : Option (Nat × Bool)} {listed : Array Bool} {i : Nat}
theorem DrawG.nil (hr : remOf ops.size listed = []) (hk : K s h) : DrawG P N F G ops 0 listed s h K := ⟨hr, hk⟩
def pickAll (F G : FuncId → Bool) (ops : Array Oper) (listed : Array Bool) (i : Nat) : Bool := (listed.size == ops.size) && closedB ops listed && pickOk F G ops listed i
theorem DrawG.pick {o : Oper} {s1 : List V} {h1 : Hp} (hp : pickAll F G ops listed i = true) (ho : ops[i]? = some o) (e : StepR P F G ops o s h s1 h1) (k : DrawG P N F G ops n (listed.setIfInBounds i true) s1 h1 K) : DrawG P N F G ops (n + 1) listed s h K := by
  simp only [pickAll, Bool.and_eq_true, beq_iff_eq] at hp
  exact Good.pick n hp.1.1 (closedB_spec hp.1.2) hp.2 ho e k
def Fork (P : Program) (N : Nat) (F G : FuncId → Bool) (ops : Array Oper) (n : Nat) (listed : Array Bool) (s : List V) (h : Hp) (K : List V → Hp → Prop) : List Nat → Prop
  | [] => True
  | i :: l => (∃ o s1 h1, ops[i]? = some o ∧ StepR P F G ops o s h s1 h1 ∧ DrawG P N F G ops n (listed.setIfInBounds i true) s1 h1 K) ∧ Fork P N F G ops n listed s h K l
theorem Fork.all : ∀ {l : List Nat}, Fork P N F G ops n listed s h K l → ∀ i ∈ l, ∃ o s1 h1, ops[i]? = some o ∧ StepR P F G ops o s h s1 h1 ∧ Good P N F G ops K n (listed.setIfInBounds i true) s1 h1
  | [], _, i, hi => by cases hi
  | j :: l, hf, i, hi => by
    rcases List.mem_cons.1 hi with rfl | hi
    · exact hf.1
    · exact Fork.all hf.2 i hi
theorem DrawG.fork (l : List Nat) (hl : Region.ready .any ops listed = l) (hne : l ≠ []) (hf : Fork P N F G ops n listed s h K l) : DrawG P N F G ops (n + 1) listed s h K := by
  refine .inr fun _ => ?_
  rw [hl]
  exact ⟨hne, hf.all⟩
theorem DrawG.gh {s' : List V} (hc : cutB ops listed = true) (hg : Ghost N s h s' h') (k : DrawG P N F G ops (n + 1) listed s' h' K) : DrawG P N F G ops (n + 1) listed s h K := by
  refine .inl ⟨hc, fun A M0 M h0 w0 a w Q hN hM Gr R hQ => ?_⟩
  obtain ⟨t, ht⟩ := Gr.pre
  have hle : N ≤ M.length := by rw [← ht]; simp [hM]
  obtain ⟨M', h1, h2, h3⟩ := hg A M a w hle R
  refine Good.sound hN hM _ _ k ⟨?_, h2.hr, Gr.ext, fun g hg hl => Gr.live g hg (h3 g hl)⟩ h2 hQ
  have : M0 = M'.take N := by rw [h1, ← ht, ← hM]; simp
  rw [this]
  exact List.take_prefix _ _
theorem Fork.nil : Fork P N F G ops n listed s h K [] := trivial
theorem Fork.cons {l : List Nat} {o : Oper} {s1 : List V} {h1 : Hp} (ho : ops[i]? = some o) (e : StepR P F G ops o s h s1 h1) (k : DrawG P N F G ops n (listed.setIfInBounds i true) s1 h1 K) (r : Fork P N F G ops n listed s h K l) : Fork P N F G ops n listed s h K (i :: l) := ⟨⟨o, s1, h1, ho, e, k⟩, r⟩
theorem noStill : Stills O0 F := fun _ _ _ _ _ _ hh => by cases hh
theorem noGrow : Grows O0 G := fun _ _ _ _ _ _ hh => by cases hh
theorem noUni : Unis O0 F := fun _ _ _ _ _ _ hh => by cases hh
theorem gS (hs : stepVal P O0 ops ⟨some t, op, ty, pos, aft, gd⟩ (mkF m fr) h = some (v, h')) : StepR P F G ops ⟨some t, op, ty, pos, aft, gd⟩ (mkF m fr) h (mkF m ((t, v) :: fr)) h' :=
  ⟨O0, noOrc, noStill, noGrow, noUni, by rw [absStep_eq, hs]; simp only [Option.map_some]; rw [putF]⟩
theorem gN (hs : stepVal P O0 ops ⟨none, op, ty, pos, aft, gd⟩ (mkF m fr) h = some (v, h')) : StepR P F G ops ⟨none, op, ty, pos, aft, gd⟩ (mkF m fr) h (mkF m fr) h' :=
  ⟨O0, noOrc, noStill, noGrow, noUni, by rw [absStep_eq, hs]; rfl⟩
theorem gC {f : FuncId} {xs : List V} (hc : Fn P f h xs v h') (hF : F f = false) (hG : G f = true → ∃ news, h' = h ++ news) (hs : stepVal P (orc1 f h xs v h') ops ⟨some t, op, ty, pos, aft, gd⟩ (mkF m fr) h = some (v, h')) :
    StepR P F G ops ⟨some t, op, ty, pos, aft, gd⟩ (mkF m fr) h (mkF m ((t, v) :: fr)) h' := by
  refine ⟨orc1 f h xs v h', orc1_ok hc, ?_, ?_, ?_, by rw [absStep_eq, hs]; simp only [Option.map_some]; rw [putF]⟩
  · intro k h1 args r1 h2 hk hh
    unfold orc1 at hh
    split at hh
    · rename_i he
      rw [he.1, hF] at hk; cases hk
    · cases hh
  · intro k h1 args r1 h2 hk hh
    unfold orc1 at hh
    split at hh
    · rename_i he
      obtain ⟨rfl, rfl, rfl⟩ := he
      simp only [Option.some.injEq, Prod.mk.injEq] at hh
      rw [← hh.2]; exact hG hk
    · cases hh
  · intro k h1 args r1 h2 hk hh
    unfold orc1 at hh
    split at hh
    · rename_i he
      rw [he.1, hF] at hk; cases hk
    · cases hh
open Classical in
noncomputable def orcU (f : FuncId) (xs : List V) (r : V) : Orc := fun k h1 xs1 => if k = f ∧ xs1 = xs then some (r, h1) else none
theorem orcU_hit {f : FuncId} {xs : List V} {r : V} : orcU f xs r f h xs = some (r, h) := by simp [orcU]
theorem gU {f : FuncId} {xs : List V} (hc : ∀ h, Fn P f h xs v h) (hG : G f = false) (hs : stepVal P (orcU f xs v) ops ⟨some t, op, ty, pos, aft, gd⟩ (mkF m fr) h = some (v, h)) :
    StepR P F G ops ⟨some t, op, ty, pos, aft, gd⟩ (mkF m fr) h (mkF m ((t, v) :: fr)) h := by
  have key : ∀ {k h1 args r1 h2}, orcU f xs v k h1 args = some (r1, h2) → k = f ∧ args = xs ∧ r1 = v ∧ h2 = h1 := by
    intro k h1 args r1 h2 hh
    unfold orcU at hh
    split at hh
    · rename_i he
      simp only [Option.some.injEq, Prod.mk.injEq] at hh
      exact ⟨he.1, he.2, hh.1.symm, hh.2.symm⟩
    · cases hh
  refine ⟨orcU f xs v, ?_, ?_, ?_, ?_, by rw [absStep_eq, hs]; simp only [Option.map_some]; rw [putF]⟩
  · intro k h1 args r1 h2 hh
    obtain ⟨rfl, rfl, rfl, rfl⟩ := key hh
    exact hc _
  · intro k h1 args r1 h2 _ hh
    exact (key hh).2.2.2
  · intro k h1 args r1 h2 hk hh
    rw [(key hh).1, hG] at hk; cases hk
  · intro k h1 args r1 h2 _ hh h3
    obtain ⟨rfl, rfl, rfl, _⟩ := key hh
    exact orcU_hit
def memF (l : List Nat) : FuncId → Bool := fun f => l.elem f
end
theorem AB.rd {P : Program} {N : Nat} {Q : Ex → List V → Hp → Prop} {s : List V} {h : Hp} (F G : FuncId → Bool) (hm : P.follows .mixedOrders = true) {id : Nat} {l : List Oper} (hr : DrawG P N F G l.toArray l.toArray.size (Array.replicate l.toArray.size false) s h (Q .normal)) : AB P N (.region id l.toArray true) Q s h := by
  intro A M0 M h0 w0 a w hN hM Gr R
  refine wp_region_any hm ?_
  have R' : Rel A M s h a w.drew := ⟨R.hr.drew, SR.keep (Grow.drew R.hr) R.sr, R.defers⟩
  exact Good.sound hN hM _ _ hr (Gr.trans (Grow.drew R.hr)) R' (fun s' h' M' a' w' hk G' R'' => ⟨.normal, s', h', M', rfl, hk, G', R''⟩)
end Go.Vm
set_option linter.unusedSimpArgs false
set_option linter.unusedVariables false
namespace Go.Vm
open Go
def Conv (h h' : Hp) (x y : V) : Prop := ∀ (A : Nat → Prop) (M : List (Option Nat)) (w : World) (v : Value), HR A M h w → VR (Xs A M h) M w x v → VR (Xs A M h') M w y v
def Convs (h h' : Hp) : List V → List V → Prop
  | [], [] => True
  | x :: xs, y :: ys => Conv h h' x y ∧ Convs h h' xs ys
  | _, _ => False
def Sub (h h' : Hp) : Prop := ∀ (b : Nat) (B' : Blk), h'[b]? = some (some B') → ∃ B, h[b]? = some (some B)
theorem Sub.live {h h' : Hp} (hs : Sub h h') {M : List (Option Nat)} {g : Nat} (hl : Live M h' g) : Live M h g := by
  obtain ⟨b, B, hb, hm⟩ := hl
  obtain ⟨C, hc⟩ := hs b B hb
  exact ⟨b, C, hc, hm⟩
theorem Sub.xs {h h' : Hp} (hs : Sub h h') {A : Nat → Prop} {M : List (Option Nat)} {g : Nat} (hl : Xs A M h' g) : Xs A M h g := hl.elim .inl (fun k => .inr (hs.live k))
theorem Conv.same {h h' : Hp} (hs : Sub h h') {x : V} : Conv h h' x x := fun _ _ _ _ _ hv => hv.avoid (fun _ _ hx => hs.xs hx)
theorem Conv.any {h h' : Hp} {x : V} : Conv h h' x .any := fun _ _ _ _ _ _ => by unfold VR; trivial
theorem Convs.len {h h' : Hp} : ∀ {xs ys : List V}, Convs h h' xs ys → xs.length = ys.length
  | [], [], _ => rfl
  | _ :: _, _ :: _, k => by simp [Convs.len k.2]
  | [], _ :: _, k => k.elim
  | _ :: _, [], k => k.elim
theorem Convs.sound {h h' : Hp} {A : Nat → Prop} {M : List (Option Nat)} {w : World} (H : HR A M h w) : ∀ {xs ys : List V} {vs : List Value}, Convs h h' xs ys → VCells (Xs A M h) M w xs vs → VCells (Xs A M h') M w ys vs
  | [], [], vs, _, hv => by unfold VCells at *; exact hv
  | x :: xs, y :: ys, vs, k, hv => by
    unfold VCells at *
    obtain ⟨v, rest, e1, e2, e3⟩ := hv
    exact ⟨v, rest, e1, k.1 A M w v H e2, Convs.sound H k.2 e3⟩
  | [], _ :: _, _, k, _ => k.elim
  | _ :: _, [], _, k, _ => k.elim
theorem Convs.same {h h' : Hp} (hs : Sub h h') : ∀ {xs : List V}, Convs h h' xs xs
  | [] => trivial
  | _ :: _ => ⟨Conv.same hs, Convs.same hs⟩
theorem Convs.nil {h h' : Hp} : Convs h h' [] [] := trivial
theorem Convs.cons {h h' : Hp} {x y : V} {xs ys : List V} (a : Conv h h' x y) (k : Convs h h' xs ys) : Convs h h' (x :: xs) (y :: ys) := ⟨a, k⟩
theorem Conv.agg {h h' : Hp} {xs ys : List V} (k : Convs h h' xs ys) : Conv h h' (.agg xs) (.agg ys) := fun A M w v H hv => by
  unfold VR at *
  obtain ⟨vs, e, hc⟩ := hv
  exact ⟨vs, e, Convs.sound H k hc⟩
theorem Conv.tup {h h' : Hp} {xs ys : List V} (k : Convs h h' xs ys) : Conv h h' (.tup xs) (.tup ys) := fun A M w v H hv => by
  unfold VR at *
  obtain ⟨vs, e, hc⟩ := hv
  exact ⟨vs, e, Convs.sound H k hc⟩
def V.shut : V → Bool
  | .sc _ | .row _ _ _ | .eptr _ _ _ => true
  | _ => false
theorem VR.shut {X : Nat → Prop} {M : List (Option Nat)} {w : World} {x : V} {v : Value} (hx : x.shut = true) (h : VR X M w x v) : VR X [] w x v := by
  cases x <;> first | (unfold VR at *; exact h) | (simp [V.shut] at hx)
theorem all_mapE {α : Type} {p : V → Bool} {E : α → V} {l : List α} (h : ∀ x, p (E x) = true) : (l.map E).all p = true := by
  rw [List.all_eq_true]; intro y hy
  simp only [List.mem_map] at hy
  obtain ⟨x, _, rfl⟩ := hy
  exact h x
theorem one_okElem {x : V} (h : x.one = true) : x.okElem 1 = true := by
  have hc : x.cells = [x] := by cases x <;> first | rfl | simp [V.one] at h
  simp [V.okElem, V.flatOk, hc, h]
theorem VRow_cells {X : Nat → Prop} {w : World} {g : Nat} {cs : Array Value} {e : TypeId} {f : Nat × Nat} (hw : w.heap[g]? = some (.cells cs e f)) : ∀ (xs : List V) (i : Nat), (∀ c ∈ xs, c.one = true ∧ c.shut = true) → VCells X [] w xs ((cs.toList.drop i).take xs.length) → VRow X [] w 1 xs ⟨g, i, none⟩
  | [], i, _, _ => by unfold VRow; trivial
  | x :: xs, i, ho, hv => by
    unfold VCells at hv
    obtain ⟨v, rest, e1, e2, e3⟩ := hv
    have hi : i < cs.toList.length := by
      rcases Nat.lt_or_ge i cs.toList.length with hl | hl
      · exact hl
      · rw [List.drop_eq_nil_of_le hl] at e1; simp at e1
    rw [List.drop_eq_getElem_cons hi] at e1
    simp only [List.length_cons, List.take_succ_cons, List.cons.injEq] at e1
    obtain ⟨ev, er⟩ := e1
    have h1 := (ho x (by simp)).1
    have hcell : v.cells = #[v] := cells_of_oneCell (e2.oneCell h1)
    unfold VRow
    refine ⟨⟨v, e2, by rw [hcell]; rfl, ?_⟩, ?_⟩
    · rw [hcell]
      intro j u hu
      have hj : j = 0 := by have := (Array.getElem?_eq_some_iff.1 hu).1; simp at this; exact this
      subst hj
      simp at hu
      subst hu
      simp only [Addr.add, if_true]
      unfold World.cell?
      rw [hw]
      subst ev
      simp at hi
      simp [hi]
    · have : (⟨g, i, none⟩ : Addr).add 1 = ⟨g, i + 1, none⟩ := by simp [Addr.add]
      rw [this]
      exact VRow_cells hw xs (i + 1) (fun c hc => ho c (by simp [hc])) (by rw [er]; exact e3)
theorem Conv.row {h h' : Hp} (hs : Sub h h') {b n : Nat} {e : TypeId} {cs : List V} {ag : Bool} (hb : h[b]? = some (some ⟨e, cs⟩)) (hb' : h'[b]? = some none) (hsh : cs.all V.shut = true) (hn : n = cs.length) : Conv h h' (.sl b 0 n 1 ag) (.row none 1 cs) := by
  intro A M w v H hv
  obtain ⟨hone, hcase⟩ := H.blk b _ hb
  unfold VR at hv ⊢
  rcases hv with ⟨hm, rfl, h0, _⟩ | ⟨g, cap, e', sz, hm, rfl, h1, _, h3, hshp, _⟩
  · have : cs = [] := List.eq_nil_of_length_eq_zero (by omega)
    subst this
    exact ⟨none, 0, rfl, Nat.le_refl _, fun _ => rfl, (fun b hb => by cases hb), by simp, fun hne => absurd rfl hne⟩
  · rcases hcase with ⟨hm', _⟩ | ⟨g', arr, hm', hA, hw, hle, hcs⟩
    · rw [hm] at hm'; cases hm'
    · rw [hm] at hm'
      injection hm' with hm'
      injection hm' with hm'
      subst hm'
      obtain ⟨f, _, hw⟩ := hw.inCells hshp
      refine ⟨some ⟨g, 0, none⟩, cap, by rw [hn], by omega, fun hh => (by cases hh), (fun b hb => by cases hb), fun c hc => one_okElem (hone c hc), fun _ => ⟨⟨g, 0, none⟩, rfl, h3, ?_, rfl, ?_⟩⟩
      · rintro (ha | ⟨c, C, hc, hmc⟩)
        · exact hA ha
        · obtain ⟨C', hc'⟩ := hs c C hc
          have := H.inj c b C' _ g hc' hb hmc hm
          subst this
          rw [hb'] at hc; cases hc
      · refine VRow_cells hw cs 0 (fun c hc => ⟨hone c hc, List.all_eq_true.1 hsh c hc⟩) ?_
        rw [List.drop_zero]
        refine VCells.mk (by rw [List.length_take]; simp only [Array.length_toList]; dsimp only at hle; omega) (fun i c u hc hu => ?_)
        obtain ⟨u', hu', hr⟩ := hcs.get hc
        dsimp only at hu'
        rw [hu] at hu'
        injection hu' with hu'
        subst hu'
        exact (hr.shut (List.all_eq_true.1 hsh c (List.mem_of_getElem? hc))).avoid (fun _ _ hx => hs.xs hx)
def FCv (h h' : Hp) (fr : List (Nat × V)) : List (Nat × V) → Prop
  | [] => True
  | (t, y) :: r => (∃ x, look fr t = some x ∧ Conv h h' x y) ∧ FCv h h' fr r
theorem FCv.nil {h h' : Hp} {fr : List (Nat × V)} : FCv h h' fr [] := trivial
theorem FCv.cons {h h' : Hp} {fr r : List (Nat × V)} {t : Nat} {x y : V} (hl : look fr t = some x) (hc : Conv h h' x y) (k : FCv h h' fr r) : FCv h h' fr ((t, y) :: r) := ⟨⟨x, hl, hc⟩, k⟩
theorem FCv.get {h h' : Hp} {fr : List (Nat × V)} : ∀ {fr' : List (Nat × V)}, FCv h h' fr fr' → ∀ {t : Nat} {y : V}, look fr' t = some y → ∃ x, look fr t = some x ∧ Conv h h' x y
  | [], _, t, y, hy => by cases hy
  | (u, z) :: r, k, t, y, hy => by
    simp only [look] at hy
    cases hb : Nat.beq u t with
    | true =>
      rw [hb] at hy
      have := Nat.eq_of_beq_eq_true hb
      subst this
      simp only [cond_true, Option.some.injEq] at hy
      subst hy
      exact k.1
    | false => rw [hb] at hy; exact k.2.get hy
def HCv (H H' : Hp) : Hp → Hp → Prop
  | [], [] => True
  | _ :: h, none :: h' => HCv H H' h h'
  | some B :: h, some B' :: h' => (B.e = B'.e ∧ Convs H H' B.cells B'.cells ∧ B'.cells.all V.one = true) ∧ HCv H H' h h'
  | _, _ => False
theorem HCv.get {H H' : Hp} : ∀ {h h' : Hp}, HCv H H' h h' → ∀ {j : Nat} {B' : Blk}, h'[j]? = some (some B') → ∃ B, h[j]? = some (some B) ∧ B.e = B'.e ∧ Convs H H' B.cells B'.cells ∧ B'.cells.all V.one = true
  | [], [], _, j, B', hj => by simp at hj
  | _ :: h, none :: h', hh, j, B', hj => by
    cases j with
    | zero => simp at hj
    | succ j => simp only [List.getElem?_cons_succ] at hj ⊢; exact HCv.get (h := h) hh hj
  | some B :: h, some C :: h', hh, j, B', hj => by
    cases j with
    | zero =>
      simp only [List.getElem?_cons_zero, Option.some.injEq] at hj
      subst hj
      exact ⟨B, rfl, hh.1.1, hh.1.2.1, hh.1.2.2⟩
    | succ j => simp only [List.getElem?_cons_succ] at hj ⊢; exact HCv.get (h := h) hh.2 hj
  | [], _ :: _, hh, _, _, _ => hh.elim
  | _ :: _, [], hh, _, _, _ => by unfold HCv at hh; exact hh.elim
  | none :: _, some _ :: _, hh, _, _, _ => hh.elim
theorem HCv.len {H H' : Hp} : ∀ {h h' : Hp}, HCv H H' h h' → h.length = h'.length
  | [], [], _ => rfl
  | _ :: h, none :: h', hh => by simp [HCv.len (h := h) hh]
  | some B :: h, some C :: h', hh => by simp [HCv.len (h := h) hh.2]
  | [], _ :: _, hh => hh.elim
  | _ :: _, [], hh => by unfold HCv at hh; exact hh.elim
  | none :: _, some _ :: _, hh => hh.elim
theorem HCv.nil {H H' : Hp} : HCv H H' [] [] := trivial
theorem HCv.dead {H H' h h' : Hp} {o : Option Blk} (k : HCv H H' h h') : HCv H H' (o :: h) (none :: h') := by cases o <;> exact k
theorem HCv.live {H H' h h' : Hp} {e : TypeId} {cs cs' : List V} (hc : Convs H H' cs cs') (ho : cs'.all V.one = true) (k : HCv H H' h h') : HCv H H' (some ⟨e, cs⟩ :: h) (some ⟨e, cs'⟩ :: h') := ⟨⟨rfl, hc, ho⟩, k⟩
theorem Ghost.conv {N n : Nat} {fr fr' : List (Nat × V)} {h h' : Hp} (hf : FCv h h' fr fr') (hh : HCv h h' h h') : Ghost N (mkF n fr) h (mkF n fr') h' := by
  intro A M a w hN R
  have hs : Sub h h' := fun b B' hb => by obtain ⟨B, hB, _⟩ := hh.get hb; exact ⟨B, hB⟩
  refine ⟨M, rfl, ⟨⟨by rw [← hh.len]; exact R.hr.len, R.hr.alt, ?_, ?_, R.hr.glob.avoid fun g _ hx => hx.elim .inl (fun hl => .inr (hs.live hl))⟩, ?_, R.defers⟩, fun g hl => hs.live hl⟩
  · intro b B' hb
    obtain ⟨B, hB, he, hc, ho⟩ := hh.get hb
    refine ⟨List.all_eq_true.1 ho, ?_⟩
    have hl := hc.len
    rcases (R.hr.blk b B hB).2 with ⟨hn, hc0⟩ | ⟨g, cs, hg, hA, hw, hle, hcs⟩
    · exact .inl ⟨hn, List.eq_nil_of_length_eq_zero (by rw [← hl, hc0]; rfl)⟩
    · refine .inr ⟨g, cs, hg, hA, by rw [← he, ← hl]; exact hw, by rw [← hl]; exact hle, ?_⟩
      rw [← hl]
      exact Convs.sound R.hr hc hcs
  · intro b b' B B' g hb hb' hm hm'
    obtain ⟨C, hC, _⟩ := hh.get hb
    obtain ⟨C', hC', _⟩ := hh.get hb'
    exact R.hr.inj b b' C C' g hC hC' hm hm'
  · exact mkF_val R.sr (fun t y hy => by
      obtain ⟨x, hx, hl⟩ := hf.get hy
      exact ⟨x, hx, fun v hv => hl A M w v R.hr hv⟩)
def subB : Hp → Hp → Bool
  | _, [] => true
  | some _ :: h, some _ :: h' => subB h h'
  | _ :: h, none :: h' => subB h h'
  | _, _ => false
theorem subB_sub : ∀ {h h' : Hp}, subB h h' = true → Sub h h'
  | h, [], _, b, B', hb => by simp at hb
  | some B :: h, some C :: h', k, b, B', hb => by
    cases b with
    | zero => exact ⟨B, rfl⟩
    | succ b => simp only [List.getElem?_cons_succ] at hb ⊢; exact subB_sub (h := h) k b B' hb
  | o :: h, none :: h', k, b, B', hb => by
    cases b with
    | zero => simp at hb
    | succ b =>
      simp only [List.getElem?_cons_succ] at hb ⊢
      refine subB_sub (h := h) (h' := h') ?_ b B' hb
      cases o <;> exact k
  | none :: _, some _ :: _, k, _, _, _ => by cases k
  | [], o :: _, k, _, _, _ => by cases o <;> cases k
end Go.Vm
set_option linter.unusedSimpArgs false
set_option linter.unusedVariables false
namespace Go.Vm
open Go
def bytesOf (s : ByteArray) : List Int := s.data.toList.map fun b => (b.toNat : Int)
def stb (s : ByteArray) : Option (List Int) := if s.size ≤ lim then some (bytesOf s) else none
theorem bytesOf_len (s : ByteArray) : (bytesOf s).length = s.size := by unfold bytesOf; rw [List.length_map]; rfl
def sidx (s : ByteArray) (i : Int) : Option Int := if 0 ≤ i then (s[i.toNat]?).map (fun b => (b.toNat : Int)) else none
section
variable {P : Program} {N n : Nat} {ops : Array Oper} {l : List Oper} {fr : List (Nat × V)} {h h' : Hp} {K : List V → Hp → Prop}
theorem ixT {t : TypeId} {s : ByteArray} {k : IntKind} {j v : Int} {sz by_ : Nat} {z : Value} (ht : tiOf P t = some ⟨.string, sz, by_, z⟩) (hx : sidx s j = some v) : indexV P t (.sc (.string s)) (.sc (.int k j)) = some (.sc (.int .u8 v)) := by
  unfold sidx at hx
  split at hx
  · rename_i h0
    simp only [Option.map_eq_some_iff] at hx
    obtain ⟨b, hb, rfl⟩ := hx
    simp [indexV, ht, asIdx, h0, hb]
  · cases hx
theorem OpsW.does {o : Oper} {v : V} {s : List V} (hw : wantedV ops o s = some true) (hD : ∀ (A : Nat → Prop) (M : List (Option Nat)) (a : Act) (w : World), HR A M h w → SR (Xs A M h) M w s a → Does P o a w A M h v h')
    (hk : OpsW P N ops l (putV s o.dst v) h' K) : OpsW P N ops (o :: l) s h K := fun k hl A M0 M h0 w0 a w Q hN hM G R hQ => by
  have h0' : ops[k]? = some o := by simpa using (hl 0).symm
  simp only [List.length_cons, List.range'_succ]
  rw [wpOps_cons]
  unfold wpOp
  rw [h0']
  simp only
  rw [wanted_sound R.sr hw, if_pos rfl]
  refine .inl (hD A M a w R.hr R.sr _ _ fun v' w' M' G' hv => ?_)
  exact hk (k + 1) (fun j => by have := hl (j + 1); simpa [Nat.add_assoc, Nat.add_comm 1 j] using this) A M0 M' h0 w0 _ w' Q hN hM (G.trans G') ⟨G'.hr, (SR.keep G' R.sr).put o.dst hv, by rw [put_defers]; exact R.defers⟩ hQ
theorem bytesOf_cells {X : Nat → Prop} {M : List (Option Nat)} {w : World} (s : ByteArray) : VCells X M w ((bytesOf s).map (eI .u8)) (s.data.toList.map fun b => Value.int .u8 b.toNat) := by
  refine VCells.mk (by simp [bytesOf]) (fun i c v hc hv => ?_)
  simp only [bytesOf, List.map_map, List.getElem?_map, Option.map_eq_some_iff] at hc hv
  obtain ⟨b, hb, rfl⟩ := hc
  obtain ⟨b', hb', rfl⟩ := hv
  rw [hb] at hb'
  injection hb' with hb'
  subst hb'
  unfold VR; rfl
theorem wStr {t : Nat} {a b e : TypeId} {x : Operand} {s : ByteArray} {r : List Int} {i : Nat} {s1 b1 s2 b2 s3 b3 : Nat} {z1 z2 z3 : Value} {ty : TypeId} {pos : String} {aft : Array Edge} (hx : evF n fr x = some (.sc (.string s)))
    (ha : tiOf P a = some ⟨.string, s1, b1, z1⟩) (hb : tiOf P b = some ⟨.slice e, s2, b2, z2⟩) (he : tiOf P e = some ⟨.int .u8, s3, b3, z3⟩) (hs : stb s = some r) (hl : h.length = i) (hh : h ++ [some ⟨e, r.map (eI .u8)⟩] = h')
    (k : OpsW P N ops l (mkF n ((t, .sl i 0 r.length 1 false) :: fr)) h' K) : OpsW P N ops (⟨some t, .convert a b x, ty, pos, aft, none⟩ :: l) (mkF n fr) h K := by
  subst hl hh
  unfold stb at hs
  split at hs
  · rename_i hsz
    injection hs with hs
    subst hs
    refine OpsW.does (v := .sl h.length 0 (bytesOf s).length 1 false) rfl ?_ (by dsimp only; rw [putF]; exact k)
    intro A M ac w H S
    have hev : ac.eval x = .string s := by have := ev_sound H.glob S (evF_ev hx); unfold VR at this; exact this
    have hge := grownCap_ge w s.size 0 e
    have hcm : grownCap w s.size 0 e ≤ maxLen := grownCap_le_maxLen w s.size 0 e (by unfold lim at hsz; simp only [maxLen]; omega)
    have hrow : (bytesRow s (grownCap w s.size 0 e)).size = grownCap w s.size 0 e := by
      simp only [bytesRow, Array.size_append, Array.size_map, Array.size_replicate]
      show s.size + _ = _
      omega
    have Gd := Grow.drew H
    have G := Gd.trans (Grow.allocF Gd.hr e ((bytesOf s).map (eI .u8)) (bytesRow s (grownCap w s.size 0 e)) (by rw [hrow, List.length_map, bytesOf_len]; exact hge) (by
      have : (bytesRow s (grownCap w s.size 0 e)).toList.take ((bytesOf s).map (eI .u8)).length = s.data.toList.map fun b => Value.int .u8 b.toNat := by
        simp only [bytesRow, Array.toList_append, Array.toList_map]
        rw [show ((bytesOf s).map (eI .u8)).length = (s.data.toList.map fun b => Value.int .u8 b.toNat).length by simp [bytesOf]]
        exact List.take_left
      rw [this]
      exact bytesOf_cells s) (fun c hc => by
        simp only [List.mem_map] at hc
        obtain ⟨y, _, rfl⟩ := hc
        rfl) _ (.inr rfl))
    refine Does.value (sem := convert a b (.string s)) (by simp [execOp, hev]) ⟨_, _, _, run_bytes_of_string w a b e s (tiOf_spec ha).1 (tiOf_spec hb).1 (tiOf_spec he).1, G, ?_⟩
    unfold VR
    refine .inr ⟨w.heap.size, grownCap w s.size 0 e, e, grownCap w s.size 0 e, by rw [← H.len]; simp, by rw [bytesOf_len], by rw [bytesOf_len]; exact hge, hcm, by omega, ?_, by omega⟩
    unfold World.shape?
    rw [show (w.drew.alloc (.cells (bytesRow s (grownCap w s.size 0 e)) e ((bytesRow s (grownCap w s.size 0 e)).size, (bytesRow s (grownCap w s.size 0 e)).size + 1))).heap[w.heap.size]? = some (.cells (bytesRow s (grownCap w s.size 0 e)) e ((bytesRow s (grownCap w s.size 0 e)).size, (bytesRow s (grownCap w s.size 0 e)).size + 1)) from heap_alloc_new w.drew _]
    simp only [hrow]
  · cases hs
end
end Go.Vm
set_option linter.unusedSimpArgs false
set_option linter.unusedVariables false
namespace Go.Vm
open Go
def arr {α : Type} (n : Nat) (l : List α) : Option (List α) := if l.length = n then some l else none
def aix {α : Type} (n : Nat) (l : List α) (i : Int) : Option α := if i < n then idx l i else none
def arp {α : Type} (n : Nat) (l : List α) : Option (List α) := if n ≤ l.length then some (l.take n) else none
def cat (a b : ByteArray) : Option ByteArray := if a.size + b.size ≤ lim then some (a ++ b) else none
def ssub (s : ByteArray) (a b : Int) : Option ByteArray := if 0 ≤ a ∧ a ≤ b ∧ b ≤ s.size then some (s.extract a.toNat b.toNat) else none
theorem arr_len {α : Type} {n : Nat} {l m : List α} (h : arr n l = some m) : l.length = n := by
  unfold arr at h; split at h
  · assumption
  · cases h
theorem arp_len {α : Type} {n : Nat} {l m : List α} (h : arp n l = some m) : m.length = n := by
  unfold arp at h; split at h
  · injection h with h; subst h; simp; omega
  · cases h
theorem aix_idx {α : Type} {n : Nat} {l : List α} {i : Int} {y : α} (h : aix n l i = some y) : idx l i = some y := by
  unfold aix at h; split at h
  · exact h
  · cases h
theorem aix_lt {α : Type} {n : Nat} {l : List α} {i : Int} {y : α} (h : aix n l i = some y) : i < n := by
  unfold aix at h; split at h
  · assumption
  · cases h
section
variable {P : Program} {h h' : Hp} {t e : TypeId} {ti : TI} {i off b N : Nat} {v : V} {α : Type} {E : α → V} {l m : List α} {y : α} {k : IntKind} {j : Int} {sz by_ : Nat} {z : Value} {ag : Bool}
theorem iaB (ht : tiOf P t = some ⟨.array N e, sz, by_, z⟩) (he : tiOf P e = some ti) (h1 : ti.size = 1) (hx : aix N l j = some y) : indexAtV P t (.ptr b 0) (.sc (.int k j)) = some (.ptr b j.toNat) := by
  obtain ⟨h2, h3, _⟩ := idx_some (aix_idx hx)
  simp [indexAtV, ht, asIdx, he, h1, h2, aix_lt hx]
theorem iaG {es : List V} (ht : tiOf P t = some ⟨.array N e, sz, by_, z⟩) (he : tiOf P e = some ti) (h1 : ti.size = 1) (hx : aix N l j = some y) : indexAtV P t (.eptr es 0 0) (.sc (.int k j)) = some (.eptr es 0 j.toNat) := by
  obtain ⟨h2, h3, _⟩ := idx_some (aix_idx hx)
  simp [indexAtV, ht, asIdx, he, h1, h2, aix_lt hx]
theorem ixA (ht : tiOf P t = some ⟨.array N e, sz, by_, z⟩) (he : tiOf P e = some ti) (h1 : ti.size = 1) (hd : isAggD ti.desc = false) (hx : aix N l j = some y) : indexV P t (.agg (l.map E)) (.sc (.int k j)) = some (E y) := by
  obtain ⟨h2, h3, h4⟩ := idx_some (aix_idx hx)
  simp [indexV, ht, asIdx, he, h1, h2, aix_lt hx, partV, hd, h4]
theorem ldG (ht : tiOf P t = some ti) (hd : isAggD ti.desc = false) (hx : idx l j = some y) : loadV P t h (.eptr [.agg (l.map E)] 0 j.toNat) = some (E y) := by
  obtain ⟨_, _, h3⟩ := idx_some hx
  simp [loadV, V.cells, partV, ht, hd, h3]
theorem ldA (ht : tiOf P t = some ⟨.array N e, sz, by_, z⟩) (hsz : sz = N) (hb : h[b]? = some (some ⟨i, l.map E⟩)) (hl : l.length = N) : loadV P t h (.ptr b 0) = some (.agg (l.map E)) := by
  subst hsz
  simp only [loadV, hb, partV, ht, isAggD, if_true, List.drop_zero, List.length_map]
  rw [if_pos (by omega), List.take_of_length_le (by simp; omega)]
theorem ldAE (ht : tiOf P t = some ⟨.array N e, sz, by_, z⟩) (hsz : sz = N) (hl : l.length = N) : loadV P t h (.eptr [.agg (l.map E)] 0 0) = some (.agg (l.map E)) := by
  subst hsz
  simp only [loadV, List.getElem?_cons_zero, V.cells, partV, ht, isAggD, if_true, List.drop_zero, List.length_map]
  rw [if_pos (by omega), List.take_of_length_le (by simp; omega)]
theorem stA (ht : tiOf P t = some ⟨.array N e, sz, by_, z⟩) (hsz : sz = N) (hb : h[b]? = some (some ⟨i, l.map E⟩)) (hE : ∀ x, (E x).one = true) (hl : l.length = N) (hm : m.length = N) (hh : h.set b (some ⟨i, m.map E⟩) = h') : storeV P t h (.ptr b 0) (.agg (m.map E)) = some h' := by
  subst hh hsz
  simp only [storeV, ht, hb]
  rw [if_pos ⟨by simp [V.flatOk, V.cells, hE], by simp [V.cells, hm], by simp [hl]⟩]
  congr 4
  unfold splice
  simp only [V.cells, List.take_zero, List.nil_append, Nat.zero_add, List.length_map]
  rw [List.drop_eq_nil_of_le (by simp; omega), List.append_nil]
theorem slA (ht : tiOf P t = some ⟨.array N e, sz, by_, z⟩) (he : tiOf P e = some ti) (h1 : ti.size = 1) (hag : isAggD ti.desc = ag) (hb : h[b]? = some (some ⟨i, l.map E⟩)) (hl : l.length = N) (hN : 0 < N ∧ N ≤ lim) : sliceV P t h (.ptr b 0) none none = some (.sl b 0 N 1 ag) := by
  subst hag
  simp only [sliceV, ht, he, asLo, asHi, hb]
  rw [if_pos ⟨by omega, hN.2, Int.le_refl _, by omega, Int.le_refl _, by simp [h1, hl]⟩]
  simp [h1]
theorem slT {s r : ByteArray} {lo hi : Option V} {a c : Int} (ht : tiOf P t = some ⟨.string, sz, by_, z⟩) (h1 : asLo lo = some a) (h2 : asHi hi s.size = some c) (hs : ssub s a c = some r) : sliceV P t h (.sc (.string s)) lo hi = some (.sc (.string r)) := by
  unfold ssub at hs
  split at hs
  · rename_i hc
    injection hs with hs
    subst hs
    simp only [sliceV, ht, h1, h2]
    rw [if_pos hc]
  · cases hs
theorem apR {nl : Option Bool} (ht : tiOf P t = some ⟨.array N e, sz, by_, z⟩) (hE : ∀ x, (E x).one = true) (hN : 0 < N) (hx : arp N l = some m) : arrPV P t (.row nl 1 (l.map E)) = some (.eptr [.agg (m.map E)] 0 0) := by
  unfold arp at hx
  split at hx
  · injection hx with hx
    subst hx
    simp only [arrPV, ht]
    rw [if_pos ⟨trivial, hN, by simpa using by assumption, by simp [hE]⟩, List.map_take]
  · cases hx
end
section
variable {P : Program} {O : Orc} {n : Nat} {fr : List (Nat × V)} {h h' : Hp} {ty : TypeId} {pos : String} {aft : Array Edge} {d : Option Tmp} {g : Option (Nat × Bool)} {x : Operand} {a v : V}
theorem d_sap {t : TypeId} (hx : evF n fr x = some a) (hv : arrPV P t a = some v) : absOp P O ⟨d, .sliceToArrayPointer t x, ty, pos, aft, g⟩ (mkF n fr) h = some (v, h) := by simp [absOp, evF_ev hx, hv]
end
theorem V.le_arr {α : Type} {E : α → V} {f : Nat → Nat} {vn : Nat → Bool} {l : List α} (hE : ∀ x, (E x).rn f = E x) : V.le vn (.agg (l.map E)) ((V.agg (l.map E)).rn f) := by
  have : (V.agg (l.map E)).rn f = V.agg (l.map E) := by simp only [V.rn, rns_map hE]
  rw [this]; exact V.le_refl _ _
theorem rfs_eI {k : IntKind} (l : List Int) : V.rfs (l.map (eI k)) = true := rfs_map (fun _ => rfl) l
theorem rfs_eB (l : List Bool) : V.rfs (l.map eB) = true := rfs_map (fun _ => rfl) l
abbrev eA {α : Type} (E : α → V) (l : List α) : V := .agg (l.map E)
theorem flatA {α : Type} {E : α → V} {l : List α} (h : ∀ x, (E x).one = true) : (V.agg (l.map E)).flatOk = true := by simp [V.flatOk, V.cells, h]
theorem ldRA {P : Program} {h : Hp} {t e : TypeId} {N sz by_ : Nat} {z : Value} {α : Type} {E : α → V} {l : List (List α)} {y : List α} {j : Int} (ht : tiOf P t = some ⟨.array N e, sz, by_, z⟩) (hsz : sz = N) (hx : idx l j = some y) (hl : y.length = N) : loadV P t h (.eptr (l.map (eA E)) j.toNat 0) = some (.agg (y.map E)) := by
  subst hsz
  obtain ⟨_, _, h3⟩ := idx_some hx
  simp only [loadV, List.getElem?_map, h3, Option.map_some, V.cells, partV, ht, isAggD, if_true, List.drop_zero, List.length_map]
  rw [if_pos (by omega), List.take_of_length_le (by simp; omega)]
section
variable {P : Program} (t : TypeId) (xo yo : Operand)
theorem bin_cat {a b r : ByteArray} (h : cat a b = some r) : binV P .add t xo yo (.sc (.string a)) (.sc (.string b)) = some (.sc (.string r)) := by
  unfold cat at h
  split at h
  · rename_i hl
    injection h with h
    subst h
    have hm : ¬ (((a.size + b.size : Nat) : Int) > IntKind.i64.max) := by
      unfold lim at hl
      have : IntKind.i64.max = 9223372036854775807 := by decide
      rw [this]; omega
    simp only [binV, toVal, cellVal, pureV]
    have : evalPure P (do eqGuard .add t xo yo (.string a) (.string b); binOp .add t (.string a) (.string b)) = some (.string (a ++ b)) := by
      show evalPure P (Op.stringOp .add a b) = _
      unfold Op.stringOp
      simp only
      rw [if_neg hm]
      rfl
    exact congrArg (Option.map ofValue) this
  · cases h
theorem evalPure_bind {α β : Type} (s : Sem α) (f : α → Sem β) {a : α} (h : evalPure P s = some a) : evalPure P (s >>= f) = evalPure P (f a) := by
  show evalPure P (Sem.bind s f) = _
  induction s with
  | pure x => simp only [evalPure, Option.some.injEq] at h; subst h; rfl
  | program k ih => exact ih P h
  | mark m k ih => exact ih h
  | _ => simp [evalPure] at h
theorem evalPure_underlying {t : TypeId} {ti : TI} (ht : tiOf P t = some ti) : evalPure P (underlying t) = some ti.desc := by
  have h1 := (tiOf_spec ht).1
  show evalPure P (match P.underlying t with | some d => pure d | none => stuck "no such type") = _
  rw [h1]; rfl
end
section
variable {P : Program}
theorem evalPure_sizeOf {t : TypeId} {ti : TI} (ht : tiOf P t = some ti) : evalPure P (sizeOf t) = some ti.size := by
  obtain ⟨_, i, h1, h2, _⟩ := tiOf_spec ht
  have : evalPure P (typeInfo t) = some i := by
    show evalPure P (match P.info? t with | some i => pure i | none => stuck "no such type") = _
    rw [h1]; rfl
  unfold sizeOf
  rw [evalPure_bind _ _ this, ← h2]; rfl
theorem evalPure_part {t : TypeId} {ti : TI} (ht : tiOf P t = some ti) (hd : isAggD ti.desc = false) {cs : Array Value} {off : Nat} {v : Value} (hv : cs[off]? = some v) : evalPure P (part t cs off) = some v := by
  unfold part
  have hu := evalPure_underlying ht
  have h1 : evalPure P (isAgg t) = some false := by
    unfold isAgg
    rw [evalPure_bind _ _ hu]
    cases hh : ti.desc <;> first | rfl | (rw [hh] at hd; simp [isAggD] at hd)
  rw [evalPure_bind _ _ h1]
  simp only [Bool.false_eq_true, if_false, hv]
  rfl
theorem equal_int {t : TypeId} {k k' : IntKind} {sz by_ : Nat} {z : Value} (ht : tiOf P t = some ⟨.int k', sz, by_, z⟩) (d : Nat) (a b : Int) : evalPure P (Op.equalIn (d + 1) t (.int k a) (.int k b)) = some (a == b) := by
  rw [Op.equalIn, evalPure_bind _ _ (evalPure_underlying ht)]
  simp only [if_true]
  rfl
theorem equal_arr {t e : TypeId} {k k' : IntKind} {N sz by_ sz' by' : Nat} {z z' : Value} (ht : tiOf P t = some ⟨.array N e, sz, by_, z⟩) (he : tiOf P e = some ⟨.int k', sz', by', z'⟩) (h1 : sz' = 1) {l m : List Int} (hl : l.length = N) (hm : m.length = N) (d : Nat) :
    evalPure P (Op.equalIn (d + 2) t (.agg (l.map (Value.int k)).toArray) (.agg (m.map (Value.int k)).toArray)) = some (l == m) := by
  subst h1
  rw [Op.equalIn, evalPure_bind _ _ (evalPure_underlying ht)]
  simp only
  rw [evalPure_bind _ _ (evalPure_sizeOf he)]
  simp only [Std.Legacy.Range.forIn_eq_forIn_range', Std.Legacy.Range.size, Nat.sub_zero, Nat.add_one_sub_one, Nat.div_one]
  have key : ∀ (c i : Nat), i + c = N → l.take i = m.take i → evalPure P (do
      let r ← forIn (List.range' i c 1) ((none, ()) : Option Bool × Unit) fun i r => do
        let a ← part e (l.map (Value.int k)).toArray (i * 1)
        let b ← part e (m.map (Value.int k)).toArray (i * 1)
        let q ← Op.equalIn (d + 1) e a b
        if (!q) = true then pure (ForInStep.done (some false, ())) else pure (ForInStep.yield (none, ()))
      match r.fst with
      | some a => pure a
      | none => pure true) = some (l == m) := by
    intro c
    induction c with
    | zero =>
      intro i hi hp
      have : l = m := by
        rw [List.take_of_length_le (by omega), List.take_of_length_le (by omega)] at hp
        exact hp
      subst this
      simp only [List.range'_zero, List.forIn_nil]
      show some true = _
      simp
    | succ c ih =>
      intro i hi hp
      have hil : i < l.length := by omega
      have him : i < m.length := by omega
      simp only [List.range'_succ, List.forIn_cons, bind_assoc]
      rw [evalPure_bind _ _ (evalPure_part he rfl (v := .int k l[i]) (by simp [hil])), evalPure_bind _ _ (evalPure_part he rfl (v := .int k m[i]) (by simp [him])), evalPure_bind _ _ (equal_int he d _ _)]
      by_cases hq : l[i] = m[i]
      · have := ih (i + 1) (by omega) (by rw [List.take_succ_eq_append_getElem hil, List.take_succ_eq_append_getElem him, hp, hq])
        simpa [hq] using this
      · have hne : l ≠ m := by rintro rfl; exact hq rfl
        have : (l == m) = false := by simpa using hne
        rw [this]
        have hq' : (l[i] == m[i]) = false := by simpa using hq
        rw [hq']
        rfl
  refine Eq.trans (congrArg (evalPure P) ?_) (key N 0 (by omega) (by simp))
  refine congr (congrArg bind ?_) (funext fun r => ?_)
  · rfl
  · obtain ⟨r, _⟩ := r
    cases r <;> rfl
variable (t : TypeId) (xo yo : Operand)
theorem toVal_ints (k : IntKind) (l : List Int) : toVal (.agg (l.map (eI k))) = some (.agg (l.map (Value.int k)).toArray) := by
  have : (l.map (eI k)).mapM cellVal = some (l.map (Value.int k)) := by
    induction l with
    | nil => rfl
    | cons x l ih => simp only [List.map_cons, List.mapM_cons, ih]; rfl
  simp only [toVal, this, Option.map_some]
theorem guard_arr {e : TypeId} {k' : IntKind} {N sz by_ sz' by' : Nat} {z z' : Value} {t : TypeId} (ht : tiOf P t = some ⟨.array N e, sz, by_, z⟩) (he : tiOf P e = some ⟨.int k', sz', by', z'⟩) (hd : 2 ≤ P.depth) {bo : BinOp} (hbo : bo = .eql ∨ bo = .neq) (a b : Array Value) : evalPure P (eqGuard bo t xo yo (.agg a) (.agg b)) = some () := by
  unfold eqGuard
  have hg : P.eqGuardType P.depth t = false := by
    obtain ⟨q, hq⟩ : ∃ q, P.depth = q + 2 := ⟨P.depth - 2, by omega⟩
    rw [hq]
    simp only [Program.eqGuardType, (tiOf_spec ht).1, (tiOf_spec he).1]
  rcases hbo with rfl | rfl <;>
  · show evalPure P (if (!P.eqGuardType P.depth t) = true then pure () else _) = some ()
    rw [hg]; rfl
theorem bin_eqlA {e : TypeId} {k k' : IntKind} {N sz by_ sz' by' : Nat} {z z' : Value} {t : TypeId} (ht : tiOf P t = some ⟨.array N e, sz, by_, z⟩) (he : tiOf P e = some ⟨.int k', sz', by', z'⟩) (h1 : sz' = 1) (hd : 2 ≤ P.depth) {l m : List Int} (hl : l.length = N) (hm : m.length = N) :
    binV P .eql t xo yo (.agg (l.map (eI k))) (.agg (m.map (eI k))) = some (.sc (.bool (l == m))) := by
  simp only [binV, toVal_ints, pureV]
  rw [evalPure_bind _ _ (guard_arr xo yo ht he hd (.inl rfl) _ _)]
  have : evalPure P (binOp .eql t (.agg (l.map (Value.int k)).toArray) (.agg (m.map (Value.int k)).toArray)) = some (.bool (l == m)) := evalPure_map _ _ (equal_arr ht he h1 hl hm 9998)
  rw [this]; rfl
theorem bin_neqA {e : TypeId} {k k' : IntKind} {N sz by_ sz' by' : Nat} {z z' : Value} {t : TypeId} (ht : tiOf P t = some ⟨.array N e, sz, by_, z⟩) (he : tiOf P e = some ⟨.int k', sz', by', z'⟩) (h1 : sz' = 1) (hd : 2 ≤ P.depth) {l m : List Int} (hl : l.length = N) (hm : m.length = N) :
    binV P .neq t xo yo (.agg (l.map (eI k))) (.agg (m.map (eI k))) = some (.sc (.bool (!(l == m)))) := by
  simp only [binV, toVal_ints, pureV]
  rw [evalPure_bind _ _ (guard_arr xo yo ht he hd (.inr rfl) _ _)]
  have : evalPure P (binOp .neq t (.agg (l.map (Value.int k)).toArray) (.agg (m.map (Value.int k)).toArray)) = some (.bool (!(l == m))) := evalPure_map _ (fun b => Value.bool !b) (equal_arr ht he h1 hl hm 9998)
  rw [this]; rfl
end
end Go.Vm
set_option linter.unusedSimpArgs false
set_option linter.unusedVariables false
namespace Go.Vm
open Go
theorem fn_ext {P : Program} {f : FuncId} {fn : Func} {args : List V} {r : V} {h : Hp} {e : Array Value → Sem Value} (hf : P.funcs[f]? = some fn) (hn : (fn.name == "runtime.NumGoroutine") = false) (hb : fn.body.isNone = true) (h1 : Extern.findNext fn = none) (h2 : Extern.find fn = some e)
    (he : ∀ (X : Nat → Prop) (M : List (Option Nat)) (w : World) (vs : List Value), VCells X M w args vs → ∃ v, (e vs.toArray).run P w = .ok v w ∧ VR X M w r v) : Fn P f h args r h := by
  intro A M w vs H hargs
  obtain ⟨v, hv, hr⟩ := he _ _ _ _ hargs
  refine .inr ⟨v, w, ?_, M, Grow.refl H, hr⟩
  have e1 : (callFunc f vs.toArray).run P w = ((e vs.toArray).run P w).andThen fun v w => .ok (.value v) w := by
    unfold callFunc
    show Sem.run P (match P.funcs[f]? with | none => _ | some fn => _) w = _
    rw [hf]
    simp only [hn, Bool.false_eq_true, if_false, hb, if_true, h1, h2]
    show Sem.run P (Sem.bind (e vs.toArray) _) w = _
    exact Sem.run_bind ..
  rw [e1, hv]
  rfl
def ixb (s : ByteArray) (c : Int) : Int := match (List.range s.size).find? (fun i => s[i]! == c.toNat.toUInt8) with
  | some i => i
  | none => -1
theorem fn_ixb {P : Program} {f : FuncId} {fn : Func} (hf : P.funcs[f]? = some fn) (hn : (fn.name == "runtime.NumGoroutine") = false) (hb : fn.body.isNone = true) (h1 : Extern.findNext fn = none) (h2 : Extern.find fn = some Extern.BytealgIndexByte.indexByte) (s : ByteArray) (c : Int) : Fn P f [] [eS s, eI .u8 c] (eI .i64 (ixb s c)) [] := by
  refine fn_ext hf hn hb h1 h2 fun X M w vs hv => ?_
  unfold VCells at hv
  obtain ⟨v, rest, rfl, hv, hr⟩ := hv
  unfold VCells at hr
  obtain ⟨u, rest, rfl, hu, hr⟩ := hr
  unfold VCells at hr
  subst hr
  unfold VR at hv hu
  subst hv hu
  refine ⟨.int .i64 (ixb s c), ?_, by unfold VR; rfl⟩
  show Sem.run P (match (List.range s.size).find? (fun i => s[i]! == c.toNat.toUInt8) with | some i => pure (goInt i) | none => pure (goInt (-1))) w = _
  unfold ixb
  cases (List.range s.size).find? (fun i => s[i]! == c.toNat.toUInt8) <;> rfl
end Go.Vm
set_option linter.unusedSimpArgs false
set_option linter.unusedVariables false
namespace Go.Vm
open Go
section
variable {α : Type} {C : α → List V} {K : Nat}
theorem flat_len (hC : ∀ x, (C x).length = K) : ∀ l : List α, (l.flatMap C).length = l.length * K
  | [] => by simp
  | x :: l => by simp only [List.flatMap_cons, List.length_append, hC, flat_len hC l, List.length_cons, Nat.add_mul, Nat.one_mul]; omega
theorem flat_drop (hC : ∀ x, (C x).length = K) : ∀ (l : List α) (i : Nat), (l.flatMap C).drop (i * K) = (l.drop i).flatMap C
  | l, 0 => by simp
  | [], i + 1 => by simp
  | x :: l, i + 1 => by
    rw [List.flatMap_cons, List.drop_succ_cons, ← flat_drop hC l i, Nat.add_mul, Nat.one_mul, List.drop_append, List.drop_eq_nil_of_le (by rw [hC]; omega), List.nil_append, hC]
    congr 1; omega
theorem flat_take (hC : ∀ x, (C x).length = K) : ∀ (l : List α) (i : Nat), (l.flatMap C).take (i * K) = (l.take i).flatMap C
  | l, 0 => by simp
  | [], i + 1 => by simp
  | x :: l, i + 1 => by
    rw [List.flatMap_cons, List.take_succ_cons, List.flatMap_cons, ← flat_take hC l i, Nat.add_mul, Nat.one_mul, List.take_append, List.take_of_length_le (by rw [hC]; omega), hC]
    congr 2; omega
theorem flat_chunks (hC : ∀ x, (C x).length = K) (l : List α) : chunks true K l.length (l.flatMap C) = l.map fun x => V.agg (C x) := by
  unfold chunks
  rw [if_pos rfl]
  apply List.ext_getElem
  · simp
  · intro i h1 h2
    simp only [List.length_map] at h2
    simp only [List.getElem_map, List.getElem_range]
    rw [flat_drop hC, List.drop_eq_getElem_cons h2, List.flatMap_cons, List.take_append, List.take_of_length_le (by rw [hC]; exact Nat.le_refl _), hC, Nat.sub_self, List.take_zero, List.append_nil]
theorem all_flat {p : V → Bool} (h : ∀ x, (C x).all p = true) (l : List α) : (l.flatMap C).all p = true := by
  rw [List.all_eq_true]; intro y hy
  simp only [List.mem_flatMap] at hy
  obtain ⟨x, _, hy⟩ := hy
  exact List.all_eq_true.1 (h x) y hy
theorem rns_app {f : Nat → Nat} : ∀ (a b : List V), V.rns f (a ++ b) = V.rns f a ++ V.rns f b
  | [], b => by simp [V.rns]
  | x :: a, b => by simp [V.rns, rns_app a b]
theorem rns_flat {f : Nat → Nat} (h : ∀ x, V.rns f (C x) = C x) : ∀ l : List α, V.rns f (l.flatMap C) = l.flatMap C
  | [] => by simp [V.rns]
  | x :: l => by rw [List.flatMap_cons, rns_app, h, rns_flat h l]
theorem les_flat {f : Nat → Nat} {vn : Nat → Bool} (h : ∀ x, V.rns f (C x) = C x) (l : List α) : V.les vn (l.flatMap C) (V.rns f (l.flatMap C)) := by rw [rns_flat h]; exact V.les_refl _ _
theorem rfs_app : ∀ (a b : List V), V.rfs (a ++ b) = (V.rfs a && V.rfs b)
  | [], b => by simp [V.rfs]
  | x :: a, b => by simp [V.rfs, rfs_app a b, Bool.and_assoc]
theorem rfs_flat (h : ∀ x, V.rfs (C x) = true) : ∀ l : List α, V.rfs (l.flatMap C) = true
  | [] => by simp [V.rfs]
  | x :: l => by rw [List.flatMap_cons, rfs_app, h, rfs_flat h l]; rfl
theorem mapM_app {F : V → Option V} {a b a' b' : List V} (h1 : a.mapM F = some a') (h2 : b.mapM F = some b') : (a ++ b).mapM F = some (a' ++ b') := by
  rw [List.mapM_append, h1, h2]; rfl
theorem mapM_flat {F : V → Option V} (h : ∀ x, (C x).mapM F = some (C x)) : ∀ l : List α, (l.flatMap C).mapM F = some (l.flatMap C)
  | [] => rfl
  | x :: l => by rw [List.flatMap_cons]; exact mapM_app (h x) (mapM_flat h l)
variable {P : Program} {h h' : Hp} {t e : TypeId} {ti : TI} {b i off : Nat} {l m : List α} {y : α} {kk : IntKind} {j : Int} {nl : Option Bool} {sz by_ : Nat} {z : Value} {v : V}
theorem exp_slK {hE : Hp} {q d : Nat} (hC : ∀ x, (C x).length = K) (hK : 0 < K) (hn : l.length = q) (hb : hE[b]? = some (some ⟨e, l.flatMap C⟩)) (hx : ∀ x, (C x).mapM (expCell hE d) = some (C x)) : expCell hE (d + 1) (.sl b 0 q K true) = some (.row none K (l.map fun x => V.agg (C x))) := by
  subst hn
  simp only [expCell, hb]
  rw [if_pos ⟨by rw [flat_len hC]; omega, hK, .inl trivial⟩]
  simp only [List.drop_zero]
  rw [List.take_of_length_le (by rw [flat_len hC]; exact Nat.le_refl _), mapM_flat hx]
  simp only [Option.map_some, flat_chunks hC]
theorem exp_slKT {hE : Hp} {q : Nat} (hC : ∀ x, (C x).length = K) (hK : 0 < K) (hn : l.length = q) (hb : hE[b]? = some (some ⟨e, l.flatMap C⟩)) (hx : ∀ x, (C x).mapM (expCell hE 3) = some (C x)) : expTop hE (.sl b 0 q K true) = some (.row none K (l.map fun x => V.agg (C x))) := exp_slK hC hK hn hb hx
theorem srcRK : srcV h K (.row nl K (m.map fun x => V.agg (C x))) = some (m.flatMap C, m.length) := by
  have : (m.map fun x => V.agg (C x)).flatMap V.cells = m.flatMap C := by rw [List.flatMap_map]; rfl
  simp only [srcV]
  rw [if_pos (.inl trivial), this]; simp
theorem srcSK {q : Nat} (hC : ∀ x, (C x).length = K) (hn : m.length = q) (hb : h[b]? = some (some ⟨e, m.flatMap C⟩)) : srcV h K (.sl b 0 q K true) = some (m.flatMap C, m.length) := by
  subst hn
  simp only [srcV, hb]
  rw [if_pos ⟨trivial, by rw [flat_len hC]; omega⟩, List.drop_zero, List.take_of_length_le (by rw [flat_len hC]; exact Nat.le_refl _)]
theorem srcNK {k : Nat} : srcV h K (.row nl k []) = some (([] : List α).flatMap C, ([] : List α).length) := by simp [srcV]
theorem appSK {q : Nat} (hC : ∀ x, (C x).length = K) (hn : l.length = q) (ht : tiOf P t = some ⟨.slice e, sz, by_, z⟩) (he : tiOf P e = some ti) (h1 : ti.zero.cells.size = K ∧ ti.size = K ∧ 1 ≤ ti.bytes ∧ 0 < K) (hb : h[b]? = some (some ⟨e, l.flatMap C⟩)) {s : V} (hs : srcV h K s = some (m.flatMap C, m.length))
    {r : List α} (ha : app ti.bytes l m = some r) (hl : h.length = i) (hh : h.set b none ++ [some ⟨e, r.flatMap C⟩] = h') : appendV P t t (.sl b 0 q K true) s h = some (.sl i 0 r.length K true, h') := by
  obtain ⟨h2, h3, h4, h5⟩ := h1
  subst hn
  unfold app at ha
  split at ha
  · rename_i hlim
    injection ha with ha
    subst ha hl hh
    have hx : srcV h ti.size s = some (m.flatMap C, m.length) := by rw [h3]; exact hs
    simp only [appendV, ne_eq, not_true, if_false, ht, he]
    rw [if_pos ⟨by rw [h2, h3], by omega, h4⟩]
    simp only [hx, hb]
    rw [if_pos ⟨h3.symm, trivial, by rw [flat_len hC]; exact Nat.le_refl _, hlim⟩, List.take_of_length_le (by rw [flat_len hC]; exact Nat.le_refl _)]
    simp
  · cases ha
theorem appNK (ht : tiOf P t = some ⟨.slice e, sz, by_, z⟩) (he : tiOf P e = some ti) (h1 : ti.zero.cells.size = K ∧ ti.size = K ∧ 1 ≤ ti.bytes ∧ 0 < K) {s : V} (hs : srcV h K s = some (m.flatMap C, m.length)) (hag : isAggD ti.desc = true) {k : Nat}
    {r : List α} (ha : app ti.bytes [] m = some r) (hl : h.length + 1 = i) (hh : h ++ [none] ++ [some ⟨e, r.flatMap C⟩] = h') : appendV P t t (.row (some true) k []) s h = some (.sl i 0 r.length K true, h') := by
  obtain ⟨h2, h3, h4, h5⟩ := h1
  unfold app at ha
  split at ha
  · rename_i hlim
    injection ha with ha
    subst ha hl hh
    have hx : srcV h ti.size s = some (m.flatMap C, m.length) := by rw [h3]; exact hs
    simp only [appendV, ne_eq, not_true, if_false, ht, he]
    rw [if_pos ⟨by rw [h2, h3], by omega, h4⟩]
    simp only [hx]
    rw [if_pos (by simpa using hlim)]
    simp [h3, hag]
  · cases ha
theorem iaSK {q : Nat} (hn : l.length = q) (ht : tiOf P t = some ⟨.slice e, sz, by_, z⟩) (he : tiOf P e = some ti) (h1 : ti.size = K) (hx : idx l j = some y) : indexAtV P t (.sl b 0 q K true) (.sc (.int kk j)) = some (.ptr b (0 + j.toNat * K)) := by
  obtain ⟨h2, h3, _⟩ := idx_some hx
  subst hn
  simp [indexAtV, ht, asIdx, he, h1, h2, h3]
theorem partV_app {cs r : List V} (h : partV P t cs = some v) : partV P t (cs ++ r) = some v := by
  unfold partV at *
  split at h
  · cases h
  · split at h
    · rename_i hag
      split at h
      · rename_i hs
        rw [if_pos hag, if_pos (by rw [List.length_append]; omega), List.take_append_of_le_length hs]; exact h
      · cases h
    · rename_i hag
      rw [if_neg hag]
      cases cs with
      | nil => cases h
      | cons c cs => exact h
theorem flat_at (hC : ∀ x, (C x).length = K) {i : Nat} (hi : l[i]? = some y) (ho : off ≤ K) : (l.flatMap C).drop (0 + i * K + off) = (C y).drop off ++ (l.drop (i + 1)).flatMap C := by
  obtain ⟨h1, h2⟩ := List.getElem?_eq_some_iff.1 hi
  rw [Nat.zero_add, ← List.drop_drop, flat_drop hC, List.drop_eq_getElem_cons h1, h2, List.flatMap_cons, List.drop_append_of_le_length (by rw [hC]; exact ho)]
theorem ldXK (hC : ∀ x, (C x).length = K) (hb : h[b]? = some (some ⟨e, l.flatMap C⟩)) (hx : idx l j = some y) (ho : off ≤ K) (hp : partV P t ((C y).drop off) = some v) : loadV P t h (.ptr b (0 + j.toNat * K + off)) = some v := by
  obtain ⟨_, _, h3⟩ := idx_some hx
  simp only [loadV, hb]
  rw [flat_at hC h3 ho]
  exact partV_app hp
theorem ldXK0 (hC : ∀ x, (C x).length = K) (hb : h[b]? = some (some ⟨e, l.flatMap C⟩)) (hx : idx l j = some y) (hp : partV P t (C y) = some v) : loadV P t h (.ptr b (0 + j.toNat * K)) = some v := ldXK (off := 0) hC hb hx (Nat.zero_le _) (by simpa using hp)
theorem splice_flat (hC : ∀ x, (C x).length = K) {i : Nat} (hi : l[i]? = some y) {x : V} {y' : α} (ho : off + x.cells.length ≤ K) (hy : splice (C y) off x.cells = C y') : splice (l.flatMap C) (0 + i * K + off) x.cells = (l.set i y').flatMap C := by
  obtain ⟨h1, h2⟩ := List.getElem?_eq_some_iff.1 hi
  have hl : l = l.take i ++ y :: l.drop (i + 1) := by rw [← h2, ← List.drop_eq_getElem_cons h1, List.take_append_drop]
  have hset : l.set i y' = l.take i ++ y' :: l.drop (i + 1) := by
    rw [List.set_eq_take_append_cons_drop, if_pos h1]
  have hti : (l.take i).length = i := by rw [List.length_take]; omega
  rw [hset, List.flatMap_append, List.flatMap_cons, ← hy]
  conv => lhs; rw [hl, List.flatMap_append, List.flatMap_cons]
  have hA : ((l.take i).flatMap C).length = i * K := by rw [flat_len hC, hti]
  unfold splice
  rw [Nat.zero_add, List.take_append, List.take_of_length_le (by rw [hA]; omega), hA, show i * K + off - i * K = off by omega, List.take_append_of_le_length (by rw [hC]; omega)]
  rw [show i * K + off + x.cells.length = i * K + (off + x.cells.length) by omega, List.drop_append, List.drop_eq_nil_of_le (by rw [hA]; omega), hA, show i * K + (off + x.cells.length) - i * K = off + x.cells.length by omega, List.nil_append, List.drop_append_of_le_length (by rw [hC]; omega)]
  simp [List.append_assoc]
theorem stXK (hC : ∀ x, (C x).length = K) (ht : tiOf P t = some ti) (hb : h[b]? = some (some ⟨e, l.flatMap C⟩)) (hx : idx l j = some y) {x : V} {y' : α} (hf : x.flatOk = true) (hs : x.cells.length = ti.size) (ho : off + ti.size ≤ K) (hy : splice (C y) off x.cells = C y') (hh : h.set b (some ⟨e, (l.set j.toNat y').flatMap C⟩) = h') : storeV P t h (.ptr b (0 + j.toNat * K + off)) x = some h' := by
  obtain ⟨_, _, h3⟩ := idx_some hx
  have h4 := (List.getElem?_eq_some_iff.1 h3).1
  subst hh
  simp only [storeV, ht, hb]
  have hle : (j.toNat + 1) * K ≤ l.length * K := Nat.mul_le_mul_right K h4
  rw [if_pos ⟨hf, hs, by rw [flat_len hC]; rw [Nat.add_mul, Nat.one_mul] at hle; omega⟩, splice_flat hC h3 (by rw [hs]; exact ho) hy]
theorem Conv.rowK (hC : ∀ x, (C x).length = K) (h1K : ∀ x, (C x).all V.one = true) (hsh : ∀ x, (C x).all V.shut = true) {h h' : Hp} (hs : Sub h h') {b n : Nat} {e : TypeId} (hb : h[b]? = some (some ⟨e, l.flatMap C⟩)) (hb' : h'[b]? = some none) (hn : n = l.length) : Conv h h' (.sl b 0 n K true) (.row none K (l.map fun x => V.agg (C x))) := by
  intro A M w v H hv
  obtain ⟨hone, hcase⟩ := H.blk b _ hb
  have hok : ∀ e ∈ l.map (fun x => V.agg (C x)), e.okElem K = true := by
    intro e he
    simp only [List.mem_map] at he
    obtain ⟨x, _, rfl⟩ := he
    simp only [V.okElem, V.flatOk, V.cells, h1K x, hC x, beq_self_eq_true, Bool.and_self]
  unfold VR at hv ⊢
  rcases hv with ⟨hm, rfl, h0, _⟩ | ⟨g, cap, e', sz, hm, rfl, h1, _, h3, hshp, _⟩
  · have : l = [] := List.eq_nil_of_length_eq_zero (by omega)
    subst this
    exact ⟨none, 0, rfl, Nat.le_refl _, fun _ => rfl, (fun b hb => by cases hb), by simp, fun hne => absurd rfl hne⟩
  · rcases hcase with ⟨hm', _⟩ | ⟨g', arr, hm', hA, hw, hle, hcs⟩
    · rw [hm] at hm'; cases hm'
    · rw [hm] at hm'
      injection hm' with hm'
      injection hm' with hm'
      subst hm'
      refine ⟨some ⟨g, 0, none⟩, cap, by rw [List.length_map, hn], by rw [List.length_map]; omega, fun hh => (by cases hh), (fun b hb => by cases hb), hok, fun _ => ⟨⟨g, 0, none⟩, rfl, h3, ?_, rfl, ?_⟩⟩
      · rintro (ha | ⟨c, C', hc, hmc⟩)
        · exact hA ha
        · obtain ⟨C'', hc'⟩ := hs c C' hc
          have := H.inj c b C'' _ g hc' hb hmc hm
          subst this
          rw [hb'] at hc; cases hc
      · rw [← flat_chunks hC l]
        unfold chunks
        rw [if_pos rfl]
        dsimp only at hle hcs
        have hall := all_flat hsh l
        refine rowOfChunks h3 l.length (vs := arr.toList.take (l.flatMap C).length) (flat_len hC l) (VCells.mk hcs.len (fun i c u hc hu => ?_)) ?_
        · obtain ⟨u', hu', hr⟩ := hcs.get hc
          rw [hu] at hu'
          injection hu' with hu'
          subst hu'
          exact (hr.shut (List.all_eq_true.1 hall c (List.mem_of_getElem? hc))).avoid (fun _ _ hx => hs.xs hx)
        · intro i u hu
          have hu2 : arr[i]? = some u := by
            simp only [List.getElem?_toArray, List.getElem?_take] at hu
            split at hu
            · simpa using hu
            · cases hu
          have := hw.cell hshp i
          rw [hu2] at this
          unfold Addr.add
          split
          · rename_i h0; subst h0; exact this
          · simpa using this
theorem fill_numK (hC : ∀ x, (C x).length = K) (h1 : ∀ x, (C x).all V.one = true) : ∀ (xs : List α) (i : Nat) (cells : List V), cells.length = (i + xs.length) * K → fillV (fun i => some (i * K, K)) cells (numP i (xs.map fun x => V.agg (C x))) = some (cells.take (i * K) ++ xs.flatMap C)
  | [], i, cells, hl => by
    simp only [List.map_nil, numP, fillV, List.flatMap_nil, List.append_nil]
    rw [List.take_of_length_le (by rw [hl]; simp)]
  | x :: xs, i, cells, hl => by
    simp only [List.length_cons] at hl
    have hl' : cells.length = i * K + K + xs.length * K := by rw [hl, Nat.add_mul, Nat.add_mul, Nat.one_mul]; omega
    simp only [List.map_cons, numP, fillV]
    rw [if_pos ⟨by simp [V.flatOk, V.cells, h1 x], by simp [V.cells, hC x], by omega⟩]
    have hsl : (splice cells (i * K) (V.agg (C x)).cells).length = cells.length := splice_length _ _ _ (by simp only [V.cells, hC]; omega)
    rw [fill_numK hC h1 xs (i + 1) _ (by rw [hsl, hl]; congr 1; omega)]
    congr 1
    rw [List.flatMap_cons, ← List.append_assoc]
    congr 1
    unfold splice
    simp only [V.cells]
    rw [Nat.add_mul, Nat.one_mul, List.append_assoc, List.take_append, List.take_of_length_le (by rw [List.length_take]; omega), List.length_take, Nat.min_eq_left (by omega), show i * K + K - i * K = K by omega, List.take_append_of_le_length (by rw [hC]; exact Nat.le_refl _), show (C x).take K = C x from List.take_of_length_le (by rw [hC]; exact Nat.le_refl _)]
theorem bldLK {len : Nat} {ps : List (Nat × V)} {xs : List α} (hC : ∀ x, (C x).length = K) (h1C : ∀ x, (C x).all V.one = true) (ht : tiOf P t = some ⟨.slice e, sz, by_, z⟩) (he : tiOf P e = some ti) (h1 : len * K ≤ 2 ^ 24 ∧ 0 < len ∧ 0 < K) (hK : ti.size = K) (hag : isAggD ti.desc = true)
    (hp : numP 0 (xs.map fun x => V.agg (C x)) = ps) (hlen : xs.length = len) (hl : h.length = i) (hh : h ++ [some ⟨e, xs.flatMap C⟩] = h') :
    buildSliceV P t len ps h = some (.sl i 0 len K true, h') := by
  subst hK hp
  refine bldL ht he h1 hag ?_ ⟨all_flat h1C xs, by rw [flat_len hC, hlen]⟩ hl hh
  rw [fill_numK hC h1C xs 0 _ (by simp [hlen])]
  simp
end
theorem pfn_runE {P : Program} (hm : P.follows .mixedOrders = true) (n : Nat) {f : FuncId} {args : List V} {r : V} (he : ((evalFn P n f [] args).bind fun p => expV p.2 p.1) = some r) : PFn P f args r := by
  cases hh : evalFn P n f [] args with
  | none => rw [hh] at he; cases he
  | some p => rw [hh] at he; exact pfn_run hm n (r := p.1) (h' := p.2) hh he
end Go.Vm
set_option linter.unusedSimpArgs false
set_option linter.unusedVariables false
namespace Go.Vm
open Go
def flatFs (P : Program) (g : TypeId → Option (List TypeDesc)) : List Field → Nat → Option (List TypeDesc)
  | [], _ => some []
  | f :: fs, off => if f.name = "_" ∨ f.offset ≠ off then none else match tiOf P f.type, g f.type with
    | some d, some l => if d.size = l.length ∧ 0 < d.size then (flatFs P g fs (off + l.length)).map (l ++ ·) else none
    | _, _ => none
def flatTy (P : Program) : Nat → TypeId → Option (List TypeDesc)
  | 0, _ => none
  | d + 1, t => match tiOf P t with
    | some ⟨.int k, sz, _, _⟩ => if sz = 1 then some [.int k] else none
    | some ⟨.bool, sz, _, _⟩ => if sz = 1 then some [.bool] else none
    | some ⟨.string, sz, _, _⟩ => if sz = 1 then some [.string] else none
    | some ⟨.array n e, sz, _, _⟩ => match tiOf P e, flatTy P d e with
      | some de, some l => if de.size = l.length ∧ sz = n * l.length then some (List.replicate n l).flatten else none
      | _, _ => none
    | some ⟨.struct fs, sz, _, _⟩ => if P.stoodInHeld t = true then none else match flatFs P (flatTy P d) fs.toList 0 with
      | some l => if sz = l.length then some l else none
      | none => none
    | _ => none
def mkT (ti : TI) (vs : List Value) : Value := if isAggD ti.desc then .agg vs.toArray else vs.headD default
def okVs : List TypeDesc → List Value → Bool
  | [], [] => true
  | .int k :: ds, .int k' _ :: vs => decide (k = k') && okVs ds vs
  | .bool :: ds, .bool _ :: vs => okVs ds vs
  | .string :: ds, .string _ :: vs => okVs ds vs
  | _, _ => false
def valEq : Value → Value → Bool
  | .int _ a, .int _ b => a == b
  | .bool a, .bool b => a == b
  | .string a, .string b => a == b
  | _, _ => false
def valsEq : List Value → List Value → Bool
  | [], [] => true
  | x :: xs, y :: ys => valEq x y && valsEq xs ys
  | _, _ => false
theorem valsEq_app : ∀ {a c b d : List Value}, a.length = c.length → valsEq (a ++ b) (c ++ d) = (valsEq a c && valsEq b d)
  | [], [], _, _, _ => by simp [valsEq]
  | x :: a, y :: c, b, d, h => by
    simp only [List.cons_append, valsEq]
    rw [valsEq_app (by simpa using h), Bool.and_assoc]
  | [], _ :: _, _, _, h => by simp at h
  | _ :: _, [], _, _, h => by simp at h
theorem okVs_len : ∀ {ds : List TypeDesc} {vs : List Value}, okVs ds vs = true → vs.length = ds.length
  | [], [], _ => rfl
  | [], _ :: _, h => by simp [okVs] at h
  | d :: ds, [], h => by cases d <;> simp [okVs] at h
  | d :: ds, v :: vs, h => by
    have : okVs ds vs = true := by
      cases d <;> cases v <;> simp only [okVs, Bool.false_eq_true, Bool.and_eq_true] at h <;> first | exact h | exact h.2
    simp [okVs_len this]
theorem okVs_split : ∀ {l m : List TypeDesc} {vs : List Value}, okVs (l ++ m) vs = true → okVs l (vs.take l.length) = true ∧ okVs m (vs.drop l.length) = true
  | [], m, vs, h => by simpa [okVs] using h
  | d :: l, m, [], h => by cases d <;> simp [okVs] at h
  | d :: l, m, v :: vs, h => by
    cases d <;> cases v <;> simp only [List.cons_append, okVs, Bool.false_eq_true, Bool.and_eq_true] at h <;> simp only [List.length_cons, List.take_succ_cons, List.drop_succ_cons, okVs, Bool.and_eq_true]
    · exact okVs_split h
    · exact ⟨⟨h.1, (okVs_split h.2).1⟩, (okVs_split h.2).2⟩
    · exact okVs_split h
section
variable {P : Program}
theorem evalPure_partT {t : TypeId} {ti : TI} (ht : tiOf P t = some ti) {vs : List Value} {off : Nat} (h1 : isAggD ti.desc = true ∨ ti.size = 1) (hl : off + ti.size ≤ vs.length) : evalPure P (part t vs.toArray off) = some (mkT ti ((vs.drop off).take ti.size)) := by
  have hu := evalPure_underlying ht
  cases hag : isAggD ti.desc with
  | false =>
    have hs := h1.resolve_left (by rw [hag]; simp)
    have hlt : off < vs.length := by omega
    have := evalPure_part (P := P) ht hag (cs := vs.toArray) (off := off) (v := vs[off]) (by simp [hlt])
    rw [this]
    simp only [mkT, hag, Bool.false_eq_true, if_false, hs]
    rw [List.drop_eq_getElem_cons hlt]; rfl
  | true =>
    unfold part
    have h1 : evalPure P (isAgg t) = some true := by
      unfold isAgg
      rw [evalPure_bind _ _ hu]
      cases hh : ti.desc <;> first | rfl | (rw [hh] at hag; simp [isAggD] at hag)
    rw [evalPure_bind _ _ h1]
    simp only [if_true]
    rw [evalPure_bind _ _ (evalPure_sizeOf ht)]
    simp only [mkT, hag, if_true, List.extract_toArray, List.extract_eq_drop_take']
    show some _ = _
    congr 2
    simp [List.take_drop]
theorem forB {α : Type} {p : α → Bool} {body : α → Option Bool × Unit → Sem (ForInStep (Option Bool × Unit))} {k : Option Bool × Unit → Sem Bool} (h1 : ∀ r u, k (some r, u) = pure r) (h2 : ∀ u, k (none, u) = pure true) : ∀ (l : List α), (∀ a ∈ l, ∀ s, evalPure P (body a s) = some (if p a = true then .yield (none, ()) else .done (some false, ()))) →
    evalPure P (forIn l ((none, ()) : Option Bool × Unit) body >>= k) = some (l.all p)
  | [], _ => by
    simp only [List.forIn_nil, pure_bind, h2]
    rfl
  | a :: l, h => by
    simp only [List.forIn_cons, bind_assoc]
    rw [evalPure_bind _ _ (h a (by simp) _)]
    cases hp : p a with
    | true =>
      simp only [if_true, List.all_cons, hp, Bool.true_and]
      exact forB h1 h2 l (fun b hb => h b (by simp [hb]))
    | false =>
      simp only [Bool.false_eq_true, if_false, List.all_cons, hp, Bool.false_and, pure_bind, h1]
      rfl
theorem forU {α : Type} {body : α → PUnit → Sem (ForInStep PUnit)} : ∀ (l : List α), (∀ a ∈ l, ∀ s, evalPure P (body a s) = some (.yield PUnit.unit)) →
    evalPure P (do
      forIn l PUnit.unit body
      pure ()) = some ()
  | [], _ => by simp only [List.forIn_nil]; rfl
  | a :: l, h => by
    simp only [List.forIn_cons, bind_assoc]
    rw [evalPure_bind _ _ (h a (by simp) _)]
    exact forU l (fun b hb => h b (by simp [hb]))
theorem valsEq_chunks {m : Nat} {xs ys : List Value} : ∀ (c i : Nat), xs.length = (i + c) * m → ys.length = (i + c) * m → valsEq (xs.drop (i * m)) (ys.drop (i * m)) = (List.range' i c).all fun i => valsEq ((xs.drop (i * m)).take m) ((ys.drop (i * m)).take m)
  | 0, i, hx, hy => by
    rw [List.drop_eq_nil_of_le (by rw [hx]; simp), List.drop_eq_nil_of_le (by rw [hy]; simp)]
    simp [valsEq]
  | c + 1, i, hx, hy => by
    have ih := valsEq_chunks (m := m) (xs := xs) (ys := ys) c (i + 1) (by rw [hx]; congr 1; omega) (by rw [hy]; congr 1; omega)
    simp only [List.range'_succ, List.all_cons]
    rw [← ih]
    have e : (i + 1) * m = i * m + m := by rw [Nat.add_mul, Nat.one_mul]
    have hm : m ≤ (c + 1) * m := Nat.le_mul_of_pos_left m (by omega)
    have h2 : (i + (c + 1)) * m = i * m + (c + 1) * m := Nat.add_mul _ _ _
    rw [e, ← List.drop_drop, ← List.drop_drop, ← valsEq_app (by simp only [List.length_take, List.length_drop, hx, hy]), List.take_append_drop, List.take_append_drop]
theorem okVs_rep {l : List TypeDesc} : ∀ (c : Nat) {xs : List Value}, okVs (List.replicate c l).flatten xs = true → ∀ i, i < c → okVs l ((xs.drop (i * l.length)).take l.length) = true
  | 0, _, _, i, hi => by omega
  | c + 1, xs, h, i, hi => by
    simp only [List.replicate_succ, List.flatten_cons] at h
    obtain ⟨h1, h2⟩ := okVs_split h
    cases i with
    | zero => simpa using h1
    | succ i =>
      have := okVs_rep c h2 i (by omega)
      rw [List.drop_drop] at this
      rw [Nat.add_mul, Nat.one_mul, Nat.add_comm]
      exact this
def fieldEq (P : Program) (xs ys : List Value) (f : Field) : Bool := match tiOf P f.type with
  | some d => valsEq ((xs.drop f.offset).take d.size) ((ys.drop f.offset).take d.size)
  | none => false
theorem flatFs_all {g : TypeId → Option (List TypeDesc)} {xs ys : List Value} : ∀ (fs : List Field) (off : Nat) {l : List TypeDesc}, flatFs P g fs off = some l → okVs l (xs.drop off) = true → okVs l (ys.drop off) = true →
    fs.all (fieldEq P xs ys) = valsEq (xs.drop off) (ys.drop off) ∧ ∀ f ∈ fs, f.name ≠ "_" ∧ ∃ df lf, tiOf P f.type = some df ∧ g f.type = some lf ∧ df.size = lf.length ∧ f.offset + df.size ≤ xs.length ∧ f.offset + df.size ≤ ys.length ∧
      okVs lf ((xs.drop f.offset).take df.size) = true ∧ okVs lf ((ys.drop f.offset).take df.size) = true
  | [], off, l, h, hx, hy => by
    simp only [flatFs, Option.some.injEq] at h
    subst h
    have e1 := okVs_len hx
    have e2 := okVs_len hy
    rw [List.eq_nil_of_length_eq_zero e1, List.eq_nil_of_length_eq_zero e2]
    simp [valsEq]
  | f :: fs, off, l, h, hx, hy => by
    simp only [flatFs] at h
    split at h
    · cases h
    · rename_i hno
      have hname : f.name ≠ "_" := fun e => hno (.inl e)
      have hoff : f.offset = off := Classical.byContradiction fun e => hno (.inr e)
      split at h
      · rename_i df lf hd hg
        split at h
        · rename_i hsz
          obtain ⟨hsz, h0⟩ := hsz
          simp only [Option.map_eq_some_iff] at h
          obtain ⟨l', hl', rfl⟩ := h
          obtain ⟨x1, x2⟩ := okVs_split hx
          obtain ⟨y1, y2⟩ := okVs_split hy
          rw [List.drop_drop] at x2 y2
          obtain ⟨i1, i2⟩ := flatFs_all fs (off + lf.length) hl' x2 y2
          have lx := okVs_len hx
          have ly := okVs_len hy
          simp only [List.length_drop, List.length_append] at lx ly
          have hxl : off ≤ xs.length ∨ lf.length + l'.length = 0 := by omega
          have x1l := okVs_len x1
          have y1l := okVs_len y1
          simp only [List.length_take, List.length_drop] at x1l y1l
          refine ⟨?_, ?_⟩
          · simp only [List.all_cons, i1, fieldEq, hd, hoff, hsz]
            rw [← List.drop_drop, ← List.drop_drop, ← valsEq_app (by simp only [List.length_take, List.length_drop]; omega), List.take_append_drop, List.take_append_drop]
          · intro f' hf'
            rcases List.mem_cons.1 hf' with rfl | hf'
            · exact ⟨hname, df, lf, hd, hg, hsz, by omega, by omega, by rw [hoff, hsz]; exact x1, by rw [hoff, hsz]; exact y1⟩
            · exact i2 f' hf'
        · cases h
      · cases h
theorem equal_flat : ∀ (d : Nat) {t : TypeId} {L : List TypeDesc} {ti : TI}, tiOf P t = some ti → flatTy P d t = some L → (L.length = ti.size ∧ (isAggD ti.desc = true ∨ ti.size = 1)) ∧
    ∀ (n : Nat) {xs : List Value}, okVs L xs = true → (∀ {ys : List Value}, okVs L ys = true → evalPure P (Op.equalIn (n + d) t (mkT ti xs) (mkT ti ys)) = some (valsEq xs ys)) ∧ ∀ b, evalPure P (Instr.checkKey b (n + d) t (mkT ti xs)) = some ()
  | 0, t, L, ti, _, h => by simp [flatTy] at h
  | d + 1, t, L, ti, ht, h => by
    simp only [flatTy] at h
    rw [ht] at h
    split at h
    · rename_i k sz _ _ he
      injection he with he; subst he
      split at h
      · rename_i h1
        injection h with h; subst h
        refine ⟨⟨by simp [h1], .inr h1⟩, fun n xs hx => ⟨fun {ys} hy => ?_, fun b => ?_⟩⟩
        · match xs, ys, okVs_len hx, okVs_len hy, hx, hy with
          | [.int k1 a], [.int k2 c], _, _, hx, hy =>
            simp only [okVs, Bool.and_true, decide_eq_true_eq] at hx hy
            subst hx; subst hy
            simp only [mkT, isAggD, Bool.false_eq_true, if_false, List.headD_cons, valsEq, valEq, Bool.and_true]
            exact equal_int ht _ a c
        · match xs, okVs_len hx, hx with
          | [.int k1 a], _, hx =>
            show evalPure P (Instr.checkKey b (n + d + 1) t _) = _
            rw [Instr.checkKey, evalPure_bind _ _ (evalPure_underlying ht)]
            rfl
      · cases h
    · rename_i sz _ _ he
      injection he with he; subst he
      split at h
      · rename_i h1
        injection h with h; subst h
        refine ⟨⟨by simp [h1], .inr h1⟩, fun n xs hx => ⟨fun {ys} hy => ?_, fun b => ?_⟩⟩
        · match xs, ys, hx, hy with
          | [.bool a], [.bool c], hx, hy =>
            show evalPure P (Op.equalIn (n + d + 1) t _ _) = _
            rw [Op.equalIn, evalPure_bind _ _ (evalPure_underlying ht)]
            simp only [mkT, isAggD, Bool.false_eq_true, if_false, List.headD_cons, valsEq, valEq, Bool.and_true]
            rfl
        · match xs, hx with
          | [.bool a], hx =>
            show evalPure P (Instr.checkKey b (n + d + 1) t _) = _
            rw [Instr.checkKey, evalPure_bind _ _ (evalPure_underlying ht)]
            rfl
      · cases h
    · rename_i sz _ _ he
      injection he with he; subst he
      split at h
      · rename_i h1
        injection h with h; subst h
        refine ⟨⟨by simp [h1], .inr h1⟩, fun n xs hx => ⟨fun {ys} hy => ?_, fun b => ?_⟩⟩
        · match xs, ys, hx, hy with
          | [.string a], [.string c], hx, hy =>
            show evalPure P (Op.equalIn (n + d + 1) t _ _) = _
            rw [Op.equalIn, evalPure_bind _ _ (evalPure_underlying ht)]
            simp only [mkT, isAggD, Bool.false_eq_true, if_false, List.headD_cons, valsEq, valEq, Bool.and_true]
            rfl
        · match xs, hx with
          | [.string a], hx =>
            show evalPure P (Instr.checkKey b (n + d + 1) t _) = _
            rw [Instr.checkKey, evalPure_bind _ _ (evalPure_underlying ht)]
            rfl
      · cases h
    · rename_i len e sz _ _ he
      injection he with he; subst he
      split at h
      · rename_i de l hde hle
        split at h
        · rename_i hc
          obtain ⟨hc1, hc2⟩ := hc
          injection h with h; subst h
          obtain ⟨⟨_, ag⟩, ih⟩ := equal_flat d hde hle
          have hL : (List.replicate len l).flatten.length = len * l.length := by simp
          refine ⟨⟨by rw [hL]; exact hc2.symm, .inl rfl⟩, fun n xs hx => ?_⟩
          have lx := okVs_len hx
          rw [hL] at lx
          have hxo := okVs_rep len hx
          have slot : ∀ i, i < len → i * l.length + l.length ≤ len * l.length := fun i hi => by
            have := Nat.mul_le_mul_right l.length (show i + 1 ≤ len from hi)
            rw [Nat.add_mul, Nat.one_mul] at this; exact this
          have px : ∀ i, i < len → evalPure P (part e xs.toArray (i * l.length)) = some (mkT de ((xs.drop (i * l.length)).take l.length)) := fun i hi => by
            have := evalPure_partT (P := P) hde ag (vs := xs) (off := i * l.length) (by rw [hc1, lx]; exact slot i hi)
            rw [hc1] at this; exact this
          refine ⟨fun {ys} hy => ?_, fun b => ?_⟩
          · have ly := okVs_len hy
            rw [hL] at ly
            have hyo := okVs_rep len hy
            have py : ∀ i, i < len → evalPure P (part e ys.toArray (i * l.length)) = some (mkT de ((ys.drop (i * l.length)).take l.length)) := fun i hi => by
              have := evalPure_partT (P := P) hde ag (vs := ys) (off := i * l.length) (by rw [hc1, ly]; exact slot i hi)
              rw [hc1] at this; exact this
            show evalPure P (Op.equalIn (n + d + 1) t (.agg xs.toArray) (.agg ys.toArray)) = _
            rw [Op.equalIn, evalPure_bind _ _ (evalPure_underlying ht)]
            simp only
            rw [evalPure_bind _ _ (evalPure_sizeOf hde), hc1]
            simp only [Std.Legacy.Range.forIn_eq_forIn_range', Std.Legacy.Range.size, Nat.sub_zero, Nat.add_one_sub_one, Nat.div_one]
            have hch := valsEq_chunks (m := l.length) (xs := xs) (ys := ys) len 0 (by simpa using lx) (by simpa using ly)
            simp only [Nat.zero_mul, List.drop_zero] at hch
            rw [hch]
            refine forB (fun _ _ => rfl) (fun _ => rfl) _ fun i hi s => ?_
            have hil : i < len := by simp at hi; omega
            rw [evalPure_bind _ _ (px i hil), evalPure_bind _ _ (py i hil), evalPure_bind _ _ ((ih n (hxo i hil)).1 (hyo i hil))]
            cases valsEq ((xs.drop (i * l.length)).take l.length) ((ys.drop (i * l.length)).take l.length) <;> rfl
          · show evalPure P (Instr.checkKey b (n + d + 1) t (.agg xs.toArray)) = _
            rw [Instr.checkKey, evalPure_bind _ _ (evalPure_underlying ht)]
            simp only [Std.Legacy.Range.forIn_eq_forIn_range', Std.Legacy.Range.size, Nat.sub_zero, Nat.add_one_sub_one, Nat.div_one]
            refine forU _ fun i hi s => ?_
            have hil : i < len := by simp at hi; omega
            rw [evalPure_bind _ _ (evalPure_sizeOf hde), hc1, evalPure_bind _ _ (px i hil), evalPure_bind _ _ ((ih n (hxo i hil)).2 b)]
            rfl
        · cases h
      · cases h
    · rename_i fs sz _ _ he
      injection he with he; subst he
      split at h
      · cases h
      · rename_i hst
        have hst' : P.stoodInHeld t = false := by simpa using hst
        split at h
        · rename_i l hl
          split at h
          · rename_i hsz
            injection h with h; subst h
            refine ⟨⟨hsz.symm, .inl rfl⟩, fun n xs hx => ?_⟩
            have hx0 : okVs l (xs.drop 0) = true := by simpa using hx
            refine ⟨fun {ys} hy => ?_, fun b => ?_⟩
            · have hy0 : okVs l (ys.drop 0) = true := by simpa using hy
              obtain ⟨a1, a2⟩ := flatFs_all (P := P) _ 0 hl hx0 hy0
              simp only [List.drop_zero] at a1
              show evalPure P (Op.equalIn (n + d + 1) t (.agg xs.toArray) (.agg ys.toArray)) = _
              rw [Op.equalIn, evalPure_bind _ _ (evalPure_underlying ht)]
              simp only
              have hp : evalPure P (program) = some P := rfl
              rw [evalPure_bind _ _ hp]
              simp only [hst', Bool.false_eq_true, if_false]
              rw [← a1]
              simp only [← Array.forIn_toList]
              refine forB (fun _ _ => rfl) (fun _ => rfl) _ fun f hf s => ?_
              obtain ⟨f1, df, lf, f2, f3, f4, f5, f6, f7, f8⟩ := a2 f hf
              obtain ⟨⟨_, ag⟩, ih⟩ := equal_flat d f2 f3
              simp only [f1, ne_eq, not_false_eq_true, if_true]
              rw [evalPure_bind _ _ (evalPure_partT f2 ag f5), evalPure_bind _ _ (evalPure_partT f2 ag f6), evalPure_bind _ _ ((ih n f7).1 f8)]
              simp only [fieldEq, f2]
              cases valsEq ((xs.drop f.offset).take df.size) ((ys.drop f.offset).take df.size) <;> rfl
            · obtain ⟨_, a2⟩ := flatFs_all (P := P) _ 0 hl hx0 hx0
              show evalPure P (Instr.checkKey b (n + d + 1) t (.agg xs.toArray)) = _
              rw [Instr.checkKey, evalPure_bind _ _ (evalPure_underlying ht)]
              simp only
              simp only [← Array.forIn_toList]
              refine forU _ fun f hf s => ?_
              obtain ⟨f1, df, lf, f2, f3, f4, f5, f6, f7, f8⟩ := a2 f hf
              obtain ⟨⟨_, ag⟩, ih⟩ := equal_flat d f2 f3
              simp only [f1, ne_eq, not_false_eq_true, if_true]
              rw [evalPure_bind _ _ (evalPure_partT f2 ag f5), evalPure_bind _ _ ((ih n f7).2 b)]
              rfl
          · cases h
        · cases h
    · cases h
end
end Go.Vm
set_option linter.unusedSimpArgs false
set_option linter.unusedVariables false
namespace Go.Vm
open Go
instance : Inhabited MT := ⟨⟨0, 0, ⟨.bool, 0, 0, default⟩, ⟨.bool, 0, 0, default⟩⟩⟩
section
variable {P : Program} {t : TypeId} {L : List TypeDesc} {ti : TI} {xo yo : Operand} {d : Nat}
theorem guard_flat (hg : P.eqGuardType P.depth t = false) {bo : BinOp} (hbo : bo = .eql ∨ bo = .neq) (a b : Array Value) : evalPure P (eqGuard bo t xo yo (.agg a) (.agg b)) = some () := by
  unfold eqGuard
  rcases hbo with rfl | rfl <;>
  · show evalPure P (if (!P.eqGuardType P.depth t) = true then pure () else _) = some ()
    rw [hg]; rfl
theorem equal_agg (ht : tiOf P t = some ti) (hag : isAggD ti.desc = true) (hf : flatTy P d t = some L) (hd : d ≤ 10000) {xs ys : List Value} (ox : okVs L xs = true) (oy : okVs L ys = true) : evalPure P (Op.equal t (.agg xs.toArray) (.agg ys.toArray)) = some (valsEq xs ys) := by
  have := ((equal_flat d ht hf).2 (10000 - d) ox).1 oy
  simp only [mkT, hag, if_true] at this
  rw [Nat.sub_add_cancel hd] at this
  exact this
theorem bin_eqlP (ht : tiOf P t = some ti) (hag : isAggD ti.desc = true) (hf : flatTy P d t = some L) (hd : d ≤ 10000) (hg : P.eqGuardType P.depth t = false) {cs ds : List V} {xs ys : List Value} {r : Bool} (hx : cs.mapM cellVal = some xs) (hy : ds.mapM cellVal = some ys) (ox : okVs L xs = true) (oy : okVs L ys = true) (hr : valsEq xs ys = r) :
    binV P .eql t xo yo (.agg cs) (.agg ds) = some (.sc (.bool r)) := by
  simp only [binV, toVal, hx, hy, Option.map_some, pureV]
  rw [evalPure_bind _ _ (guard_flat hg (.inl rfl) _ _)]
  have : evalPure P (binOp .eql t (.agg xs.toArray) (.agg ys.toArray)) = some (.bool (valsEq xs ys)) := evalPure_map _ _ (equal_agg ht hag hf hd ox oy)
  rw [this, hr]; rfl
theorem bin_neqP (ht : tiOf P t = some ti) (hag : isAggD ti.desc = true) (hf : flatTy P d t = some L) (hd : d ≤ 10000) (hg : P.eqGuardType P.depth t = false) {cs ds : List V} {xs ys : List Value} {r : Bool} (hx : cs.mapM cellVal = some xs) (hy : ds.mapM cellVal = some ys) (ox : okVs L xs = true) (oy : okVs L ys = true) (hr : valsEq xs ys = r) :
    binV P .neq t xo yo (.agg cs) (.agg ds) = some (.sc (.bool (!r))) := by
  simp only [binV, toVal, hx, hy, Option.map_some, pureV]
  rw [evalPure_bind _ _ (guard_flat hg (.inr rfl) _ _)]
  have : evalPure P (binOp .neq t (.agg xs.toArray) (.agg ys.toArray)) = some (.bool (!(valsEq xs ys))) := evalPure_map _ (fun b => Value.bool !b) (equal_agg ht hag hf hd ox oy)
  rw [this, hr]; rfl
end
structure KeyOk (P : Program) (kt : TypeId) {α : Type} (VK : α → Value) (eq : α → α → Bool) : Prop where
  equal : ∀ a b, evalPure P (Op.equal kt (VK a) (VK b)) = some (eq a b)
  check : ∀ e a, evalPure P (Instr.checkKey e 10000 kt (VK a)) = some ()
  stays : ∀ a b, eq a b = true → Instr.sameBits 10000 (VK b) (VK a) = true
theorem ba_eq {a b : ByteArray} (h : (a == b) = true) : a = b := by
  obtain ⟨a⟩ := a
  obtain ⟨b⟩ := b
  have h' : (a == b) = true := h
  rw [eq_of_beq h']
theorem bits_of : ∀ (n : Nat) {L : List TypeDesc} {xs ys : List Value}, okVs L xs = true → okVs L ys = true → valsEq xs ys = true → (ys.zip xs).all (fun (x, y) => Instr.sameBits n x y) = true
  | n, [], [], [], _, _, _ => rfl
  | n, d :: L, x :: xs, y :: ys, hx, hy, h => by
    simp only [valsEq, Bool.and_eq_true] at h
    have key : okVs L xs = true ∧ okVs L ys = true ∧ Instr.sameBits n y x = true := by
      cases d <;> cases x <;> simp only [okVs, Bool.false_eq_true, Bool.and_eq_true, decide_eq_true_eq] at hx <;> cases y <;> simp only [okVs, Bool.false_eq_true, Bool.and_eq_true, decide_eq_true_eq] at hy <;> simp only [valEq, beq_iff_eq] at h
      · exact ⟨hx, hy, by cases n <;> simp [Instr.sameBits, h.1]⟩
      · refine ⟨hx.2, hy.2, ?_⟩
        have h1 := hx.1.symm.trans hy.1
        cases n <;> simp [Instr.sameBits, h.1, h1]
      · refine ⟨hx, hy, ?_⟩
        have h1 := ba_eq h.1
        subst h1
        cases n <;> exact h.1
    simp only [List.zip_cons_cons, List.all_cons, key.2.2, Bool.true_and]
    exact bits_of n key.1 key.2.1 h.2
  | n, [], _ :: _, _, hx, _, _ => by simp [okVs] at hx
  | n, [], [], _ :: _, _, hy, _ => by simp [okVs] at hy
  | n, d :: L, [], _, hx, _, _ => by cases d <;> simp [okVs] at hx
  | n, d :: L, _ :: _, [], _, hy, _ => by cases d <;> simp [okVs] at hy
theorem keyOk_flat {P : Program} {kt : TypeId} {L : List TypeDesc} {ti : TI} {d : Nat} {α : Type} {xs : α → List Value} {eq : α → α → Bool} (ht : tiOf P kt = some ti) (hag : isAggD ti.desc = true) (hf : flatTy P d kt = some L) (hd : d ≤ 10000) (ok : ∀ a, okVs L (xs a) = true) (heq : ∀ a b, valsEq (xs a) (xs b) = eq a b) :
    KeyOk P kt (fun a => .agg (xs a).toArray) eq := by
  refine ⟨fun a b => by rw [← heq]; exact equal_agg ht hag hf hd (ok a) (ok b), fun e a => ?_, fun a b h => ?_⟩
  · have := ((equal_flat d ht hf).2 (10000 - d) (ok a)).2 e
    simp only [mkT, hag, if_true] at this
    rw [Nat.sub_add_cancel hd] at this
    exact this
  · have h1 := bits_of 9999 (ok a) (ok b) (by rw [heq]; exact h)
    have hl : (xs b).length = (xs a).length := by rw [okVs_len (ok a), okVs_len (ok b)]
    show Instr.sameBits (9999 + 1) _ _ = true
    simp only [Instr.sameBits, List.size_toArray, hl, beq_self_eq_true, Bool.true_and]
    exact h1
def mfind {α β : Type} (eq : α → α → Bool) (l : List (α × β)) (k : α) : Option Nat := l.findIdx? fun e => eq k e.1
def mget {α β : Type} (eq : α → α → Bool) (l : List (α × β)) (k : α) (z : β) : β := match mfind eq l k with
  | some i => ((l[i]?).map (·.2)).getD z
  | none => z
def mhas {α β : Type} (eq : α → α → Bool) (l : List (α × β)) (k : α) : Bool := (mfind eq l k).isSome
def mput {α β : Type} (eq : α → α → Bool) (l : List (α × β)) (k : α) (v : β) : List (α × β) := match mfind eq l k with
  | some i => l.set i (k, v)
  | none => l ++ [(k, v)]
section
variable {P : Program} {kt : TypeId} {α β : Type} {VK : α → Value} {eq : α → α → Bool} {CK : α → List V} {E : β → V} {C : α × β → List V} {K : Nat} {l : List (α × β)} {k : α} {v : β}
theorem ent_flat (hC : ∀ e, C e = CK e.1 ++ [E e.2]) (hl : ∀ a, (CK a).length = K) (h0 : 0 < K) : ∀ l : List (α × β), entV K 0 l.length (l.flatMap C) = l.map fun e => (V.agg (CK e.1), E e.2)
  | [] => rfl
  | e :: l => by
    have w1 : width K = K := by unfold width; rw [if_neg (by omega)]
    have w0 : width 0 = 1 := rfl
    have e1 : (e :: l).flatMap C = CK e.1 ++ (E e.2 :: l.flatMap C) := by rw [List.flatMap_cons, hC]; simp
    simp only [List.length_cons, entV, e1, w1, w0]
    have d1 : (CK e.1 ++ E e.2 :: l.flatMap C).drop K = E e.2 :: l.flatMap C := List.drop_left' (hl _)
    have d2 : (CK e.1 ++ E e.2 :: l.flatMap C).drop (K + 1) = l.flatMap C := by rw [← List.drop_drop, d1]; rfl
    rw [List.take_left' (hl _), d1, d2, ent_flat hC hl h0 l, List.map_cons]
    have hK : K ≠ 0 := by omega
    simp [mkSh, hK]
theorem flat_pairs (hC : ∀ e, C e = CK e.1 ++ [E e.2]) (hE : ∀ b, (E b).one = true) (l : List (α × β)) : flatE (l.map fun e => (V.agg (CK e.1), E e.2)) = l.flatMap C := by
  have hc : ∀ b, (E b).cells = [E b] := fun b => by have := hE b; generalize E b = y at this ⊢; cases y <;> first | rfl | simp [V.one] at this
  have ha : ∀ cs : List V, (V.agg cs).cells = cs := fun _ => rfl
  simp only [flatE, List.flatMap_map, ha, hc]
  exact congrArg (fun f => List.flatMap f l) (funext fun e => (hC e).symm)
theorem flat_lenP (hC : ∀ e, C e = CK e.1 ++ [E e.2]) (hl : ∀ a, (CK a).length = K) : ∀ l : List (α × β), (l.flatMap C).length = l.length * (K + 1)
  | [] => by simp
  | e :: l => by rw [List.flatMap_cons, List.length_append, flat_lenP hC hl l, hC]; simp [hl, Nat.add_mul]; omega
theorem keys_flat (hv : ∀ a, toVal (.agg (CK a)) = some (VK a)) : ∀ l : List (α × β), (l.map fun e => (V.agg (CK e.1), E e.2)).mapM (fun e => toVal e.1) = some (l.map fun e => VK e.1)
  | [] => rfl
  | e :: l => by simp only [List.map_cons, List.mapM_cons, hv, keys_flat hv l]; rfl
theorem find_flat (hk : KeyOk P kt VK eq) (k : α) : ∀ l : List (α × β), findIx P kt (VK k) (l.map fun e => VK e.1) = some (mfind eq l k)
  | [] => rfl
  | e :: l => by
    simp only [List.map_cons, findIx, hk.equal, mfind, List.findIdx?_cons]
    cases eq k e.1 with
    | true => rfl
    | false =>
      have := find_flat hk k l
      simp only [mfind] at this
      simp [this]
variable {t : TypeId} {m : MT} {h h' : Hp} {b : Nat}
theorem mapAt_flat (hC : ∀ e, C e = CK e.1 ++ [E e.2]) (hl : ∀ a, (CK a).length = K) (h0 : 0 < K) (hm : mapTy P t = some m) (hK : shN m.dk = K) (hL : shN m.de = 0) (hb : h[b]? = some (some ⟨m.code, l.flatMap C⟩)) :
    mapAt P t h (.mp b) = some ⟨m, b, ⟨m.code, l.flatMap C⟩, l.map fun e => (V.agg (CK e.1), E e.2)⟩ := by
  have w1 : width K = K := by unfold width; rw [if_neg (by omega)]
  have w0 : width 0 = 1 := rfl
  simp only [mapAt, hm, hb, if_true, hK, hL, w1, w0, flat_lenP hC hl]
  rw [Nat.mul_div_cancel _ (by omega), ent_flat hC hl h0]
theorem mapFind_flat (hv : ∀ a, toVal (.agg (CK a)) = some (VK a)) (hk : KeyOk P kt VK eq) : mapFind P kt (l.map fun e => (V.agg (CK e.1), E e.2)) (.agg (CK k)) = some (VK k, l.map (fun e => VK e.1), mfind eq l k) := by
  simp only [mapFind, hv, keys_flat hv, hk.check, find_flat hk]
theorem lkM {z : β} (hC : ∀ e, C e = CK e.1 ++ [E e.2]) (hl : ∀ a, (CK a).length = K) (h0 : 0 < K) (hv : ∀ a, toVal (.agg (CK a)) = some (VK a)) (hm : mapTy P t = some m) (hk : KeyOk P m.kt VK eq) (hK : shN m.dk = K) (hL : shN m.de = 0) (hz : ofValue m.de.zero = E z) (hb : h[b]? = some (some ⟨m.code, l.flatMap C⟩)) :
    lookupV P t h (.mp b) (.agg (CK k)) false = some (E (mget eq l k z)) := by
  simp only [lookupV, mapAt_flat hC hl h0 hm hK hL hb, mapFind_flat hv hk, mget]
  cases hf : mfind eq l k with
  | none => simp [hz]
  | some i =>
    have hi : i < l.length := (List.findIdx?_eq_some_iff_getElem.1 hf).1
    simp [hi]
theorem lkMo {z : β} (hC : ∀ e, C e = CK e.1 ++ [E e.2]) (hl : ∀ a, (CK a).length = K) (h0 : 0 < K) (hv : ∀ a, toVal (.agg (CK a)) = some (VK a)) (hm : mapTy P t = some m) (hk : KeyOk P m.kt VK eq) (hK : shN m.dk = K) (hL : shN m.de = 0) (hz : ofValue m.de.zero = E z) (hb : h[b]? = some (some ⟨m.code, l.flatMap C⟩)) :
    lookupV P t h (.mp b) (.agg (CK k)) true = some (.tup [E (mget eq l k z), eB (mhas eq l k)]) := by
  simp only [lookupV, mapAt_flat hC hl h0 hm hK hL hb, mapFind_flat hv hk, mget, mhas]
  cases hf : mfind eq l k with
  | none => simp [hz]
  | some i =>
    have hi : i < l.length := (List.findIdx?_eq_some_iff_getElem.1 hf).1
    simp [hi]
theorem upM (hC : ∀ e, C e = CK e.1 ++ [E e.2]) (hl : ∀ a, (CK a).length = K) (h0 : 0 < K) (h1 : ∀ a, (CK a).all V.one = true) (hE : ∀ b, (E b).one = true) (hv : ∀ a, toVal (.agg (CK a)) = some (VK a)) (hm : mapTy P t = some m) (hk : KeyOk P m.kt VK eq) (hK : shN m.dk = K) (hL : shN m.de = 0) (hb : h[b]? = some (some ⟨m.code, l.flatMap C⟩)) (hh : h.set b (some ⟨m.code, (mput eq l k v).flatMap C⟩) = h') :
    updV P t h (.mp b) (.agg (CK k)) (E v) = some h' := by
  subst hh
  have hKn : K ≠ 0 := by omega
  have s1 : isSh K (.agg (CK k)) = true := by simp [isSh, V.flatOk, V.cells, h1, hKn, hl]
  have hc : ∀ b, (E b).cells = [E b] := fun b => by have := hE b; generalize E b = y at this ⊢; cases y <;> first | rfl | simp [V.one] at this
  have s2 : isSh 0 (E v) = true := by simp [isSh, V.flatOk, hc, hE]
  simp only [updV, mapAt_flat hC hl h0 hm hK hL hb, hK, hL, s1, s2, Bool.and_self, if_true, mapFind_flat hv hk, mput]
  cases hf : mfind eq l k with
  | none =>
    have ha : ∀ cs : List V, (V.agg cs).cells = cs := fun _ => rfl
    simp only [List.flatMap_append, List.flatMap_cons, List.flatMap_nil, hC, ha, hc, List.append_nil]
  | some i =>
    obtain ⟨hi, hp, _⟩ := List.findIdx?_eq_some_iff_getElem.1 hf
    have hst : staysV (l.map fun e => VK e.1) i (VK k) = true := by
      simp only [staysV, List.getElem?_map, List.getElem?_eq_getElem hi, Option.map_some, Option.any_some]
      exact hk.stays _ _ hp
    simp only [hst, if_true]
    rw [← flat_pairs hC hE (l.set i (k, v)), List.map_set]
theorem lkM' {z : β} {e : Nat} (he : m.code = e) (hC : ∀ e, C e = CK e.1 ++ [E e.2]) (hl : ∀ a, (CK a).length = K) (h0 : 0 < K) (hv : ∀ a, toVal (.agg (CK a)) = some (VK a)) (hm : mapTy P t = some m) (hk : KeyOk P m.kt VK eq) (hK : shN m.dk = K) (hL : shN m.de = 0) (hz : ofValue m.de.zero = E z) (hb : h[b]? = some (some ⟨e, l.flatMap C⟩)) :
    lookupV P t h (.mp b) (.agg (CK k)) false = some (E (mget eq l k z)) := by
  subst he; exact lkM hC hl h0 hv hm hk hK hL hz hb
theorem lkMo' {z : β} {e : Nat} (he : m.code = e) (hC : ∀ e, C e = CK e.1 ++ [E e.2]) (hl : ∀ a, (CK a).length = K) (h0 : 0 < K) (hv : ∀ a, toVal (.agg (CK a)) = some (VK a)) (hm : mapTy P t = some m) (hk : KeyOk P m.kt VK eq) (hK : shN m.dk = K) (hL : shN m.de = 0) (hz : ofValue m.de.zero = E z) (hb : h[b]? = some (some ⟨e, l.flatMap C⟩)) :
    lookupV P t h (.mp b) (.agg (CK k)) true = some (.tup [E (mget eq l k z), eB (mhas eq l k)]) := by
  subst he; exact lkMo hC hl h0 hv hm hk hK hL hz hb
theorem upM' {e : Nat} (he : m.code = e) (hC : ∀ e, C e = CK e.1 ++ [E e.2]) (hl : ∀ a, (CK a).length = K) (h0 : 0 < K) (h1 : ∀ a, (CK a).all V.one = true) (hE : ∀ b, (E b).one = true) (hv : ∀ a, toVal (.agg (CK a)) = some (VK a)) (hm : mapTy P t = some m) (hk : KeyOk P m.kt VK eq) (hK : shN m.dk = K) (hL : shN m.de = 0) (hb : h[b]? = some (some ⟨e, l.flatMap C⟩)) (hh : h.set b (some ⟨e, (mput eq l k v).flatMap C⟩) = h') :
    updV P t h (.mp b) (.agg (CK k)) (E v) = some h' := by
  subst he; exact upM hC hl h0 h1 hE hv hm hk hK hL hb hh
def vals (cs : List V) : List Value := (cs.mapM cellVal).getD []
end
section
variable {P : Program} {O : Orc} {n : Nat} {fr : List (Nat × V)} {h h' : Hp} {ty : TypeId} {pos : String} {aft : Array Edge} {v : V} {d : Option Tmp} {g : Option (Nat × Bool)} {x y z : Operand} {a b c : V} {t : TypeId}
theorem d_mkmap {m : MT} {i : Nat} {e : Nat} (hm : mapTy P t = some m) (he : m.code = e) (hl : h.length = i) (hh : h ++ [some ⟨e, []⟩] = h') : absOp P O ⟨d, .makeMap t none, ty, pos, aft, g⟩ (mkF n fr) h = some (.mp i, h') := by
  subst hl hh he
  simp [absOp, makeMapV, hm]
theorem d_lk {ok : Bool} (hx : evF n fr x = some a) (hy : evF n fr y = some b) (hv : lookupV P t h a b ok = some v) : absOp P O ⟨d, .lookup t x y ok, ty, pos, aft, g⟩ (mkF n fr) h = some (v, h) := by simp [absOp, evF_ev hx, evF_ev hy, hv]
theorem d_upd (hx : evF n fr x = some a) (hy : evF n fr y = some b) (hz : evF n fr z = some c) (hv : updV P t h a b c = some h') : absOp P O ⟨d, .mapUpdate t x y z, ty, pos, aft, g⟩ (mkF n fr) h = some (.sc undef, h') := by simp [absOp, evF_ev hx, evF_ev hy, evF_ev hz, hv]
end
theorem range_getD {E : Int → V} {n : Nat} {l : List Int} (h : l.length = n) : (List.range n).map (fun i => E (l.getD i 0)) = l.map E := by
  apply List.ext_getElem?
  intro i
  simp only [List.getElem?_map, List.getElem?_range']
  by_cases hi : i < n
  · rw [List.getElem?_range hi, List.getElem?_eq_getElem (by omega)]
    simp [List.getD_eq_getElem?_getD, List.getElem?_eq_getElem (show i < l.length by omega)]
  · rw [List.getElem?_eq_none (by simpa using hi), List.getElem?_eq_none (by omega)]; rfl
theorem range_all {n : Nat} {a b : List Int} (ha : a.length = n) (hb : b.length = n) : (List.range n).all (fun i => a.getD i 0 == b.getD i 0) = (a == b) := by
  rw [Bool.eq_iff_iff]
  simp only [List.all_eq_true, List.mem_range, beq_iff_eq]
  constructor
  · intro h
    apply List.ext_getElem (by omega)
    intro i h1 h2
    have := h i (by omega)
    simpa [List.getD_eq_getElem?_getD, List.getElem?_eq_getElem h1, List.getElem?_eq_getElem h2] using this
  · rintro rfl i _; rfl
theorem bldE {P : Program} {t : TypeId} {ps ps' : List (Nat × V)} {v : V} (h : ps = ps') (hb : buildV P t ps' = some v) : buildV P t ps = some v := by rw [h]; exact hb
def ar4 (E : Int → V) (l : List Int) (r : List V) : List V := E (l.getD 0 0) :: E (l.getD 1 0) :: E (l.getD 2 0) :: E (l.getD 3 0) :: r
theorem ar4_map {E : Int → V} {l : List Int} (h : l.length = 4) (r : List V) : ar4 E l r = l.map E ++ r := by
  rw [← range_getD h]; rfl
theorem ar4_nil {E : Int → V} {l : List Int} (h : l.length = 4) : ar4 E l [] = l.map E := by rw [ar4_map h]; simp
theorem to4 {P : Program} {E : Int → V} {l : List Int} {t : TypeId} {cs : List V} (h : l.length = 4) (hp : partV P t cs = some (.agg (ar4 E l []))) : partV P t cs = some (.agg (l.map E)) := by rw [hp, ar4_nil h]
theorem stE4 {P : Program} {E : Int → V} {l : List Int} {t : TypeId} {h h' : Hp} {a : V} (q : l.length = 4) (hp : storeV P t h a (.agg (ar4 E l [])) = some h') : storeV P t h a (.agg (l.map E)) = some h' := by rw [← ar4_nil q]; exact hp
theorem rns_ar4 {f : Nat → Nat} {k : IntKind} {l : List Int} {r : List V} : V.rns f (ar4 (eI k) l r) = ar4 (eI k) l (V.rns f r) := rfl
theorem les_ar4 {vn : Nat → Bool} {E : Int → V} {l : List Int} {r r' : List V} (hr : V.les vn r r') : V.les vn (ar4 E l r) (ar4 E l r') := by
  unfold ar4
  repeat (first | exact hr | refine V.les_cons (V.le_refl _ _) ?_)
theorem cvs_ar4 {h h' : Hp} {E : Int → V} {l : List Int} {r r' : List V} (hE : ∀ x, Conv h h' (E x) (E x)) (hr : Convs h h' r r') : Convs h h' (ar4 E l r) (ar4 E l r') := by
  unfold ar4
  repeat (first | exact hr | refine Convs.cons (hE _) ?_)
def aeq4 (a b : List Int) (r : Bool) : Bool := ((a.getD 0 0 == b.getD 0 0) && ((a.getD 1 0 == b.getD 1 0) && ((a.getD 2 0 == b.getD 2 0) && ((a.getD 3 0 == b.getD 3 0) && r))))
theorem aeq4_iff {a b : List Int} (ha : a.length = 4) (hb : b.length = 4) (r : Bool) : aeq4 a b r = ((a == b) && r) := by
  have e : aeq4 a b r = ((List.range 4).all (fun i => a.getD i 0 == b.getD i 0) && r) := by
    simp only [aeq4, show List.range 4 = [0, 1, 2, 3] from rfl, List.all_cons, List.all_nil, Bool.and_assoc, Bool.true_and, Bool.and_true]
  rw [e, range_all ha hb]
def ar8 (E : Int → V) (l : List Int) (r : List V) : List V := E (l.getD 0 0) :: E (l.getD 1 0) :: E (l.getD 2 0) :: E (l.getD 3 0) :: E (l.getD 4 0) :: E (l.getD 5 0) :: E (l.getD 6 0) :: E (l.getD 7 0) :: r
theorem ar8_map {E : Int → V} {l : List Int} (h : l.length = 8) (r : List V) : ar8 E l r = l.map E ++ r := by
  rw [← range_getD h]; rfl
theorem ar8_nil {E : Int → V} {l : List Int} (h : l.length = 8) : ar8 E l [] = l.map E := by rw [ar8_map h]; simp
theorem to8 {P : Program} {E : Int → V} {l : List Int} {t : TypeId} {cs : List V} (h : l.length = 8) (hp : partV P t cs = some (.agg (ar8 E l []))) : partV P t cs = some (.agg (l.map E)) := by rw [hp, ar8_nil h]
theorem stE8 {P : Program} {E : Int → V} {l : List Int} {t : TypeId} {h h' : Hp} {a : V} (q : l.length = 8) (hp : storeV P t h a (.agg (ar8 E l [])) = some h') : storeV P t h a (.agg (l.map E)) = some h' := by rw [← ar8_nil q]; exact hp
theorem rns_ar8 {f : Nat → Nat} {k : IntKind} {l : List Int} {r : List V} : V.rns f (ar8 (eI k) l r) = ar8 (eI k) l (V.rns f r) := rfl
theorem les_ar8 {vn : Nat → Bool} {E : Int → V} {l : List Int} {r r' : List V} (hr : V.les vn r r') : V.les vn (ar8 E l r) (ar8 E l r') := by
  unfold ar8
  repeat (first | exact hr | refine V.les_cons (V.le_refl _ _) ?_)
theorem cvs_ar8 {h h' : Hp} {E : Int → V} {l : List Int} {r r' : List V} (hE : ∀ x, Conv h h' (E x) (E x)) (hr : Convs h h' r r') : Convs h h' (ar8 E l r) (ar8 E l r') := by
  unfold ar8
  repeat (first | exact hr | refine Convs.cons (hE _) ?_)
def aeq8 (a b : List Int) (r : Bool) : Bool := ((a.getD 0 0 == b.getD 0 0) && ((a.getD 1 0 == b.getD 1 0) && ((a.getD 2 0 == b.getD 2 0) && ((a.getD 3 0 == b.getD 3 0) && ((a.getD 4 0 == b.getD 4 0) && ((a.getD 5 0 == b.getD 5 0) && ((a.getD 6 0 == b.getD 6 0) && ((a.getD 7 0 == b.getD 7 0) && r))))))))
theorem aeq8_iff {a b : List Int} (ha : a.length = 8) (hb : b.length = 8) (r : Bool) : aeq8 a b r = ((a == b) && r) := by
  have e : aeq8 a b r = ((List.range 8).all (fun i => a.getD i 0 == b.getD i 0) && r) := by
    simp only [aeq8, show List.range 8 = [0, 1, 2, 3, 4, 5, 6, 7] from rfl, List.all_cons, List.all_nil, Bool.and_assoc, Bool.true_and, Bool.and_true]
  rw [e, range_all ha hb]
def ar20 (E : Int → V) (l : List Int) (r : List V) : List V := E (l.getD 0 0) :: E (l.getD 1 0) :: E (l.getD 2 0) :: E (l.getD 3 0) :: E (l.getD 4 0) :: E (l.getD 5 0) :: E (l.getD 6 0) :: E (l.getD 7 0) :: E (l.getD 8 0) :: E (l.getD 9 0) :: E (l.getD 10 0) :: E (l.getD 11 0) :: E (l.getD 12 0) :: E (l.getD 13 0) :: E (l.getD 14 0) :: E (l.getD 15 0) :: E (l.getD 16 0) :: E (l.getD 17 0) :: E (l.getD 18 0) :: E (l.getD 19 0) :: r
theorem ar20_map {E : Int → V} {l : List Int} (h : l.length = 20) (r : List V) : ar20 E l r = l.map E ++ r := by
  rw [← range_getD h]; rfl
theorem ar20_nil {E : Int → V} {l : List Int} (h : l.length = 20) : ar20 E l [] = l.map E := by rw [ar20_map h]; simp
theorem to20 {P : Program} {E : Int → V} {l : List Int} {t : TypeId} {cs : List V} (h : l.length = 20) (hp : partV P t cs = some (.agg (ar20 E l []))) : partV P t cs = some (.agg (l.map E)) := by rw [hp, ar20_nil h]
theorem stE20 {P : Program} {E : Int → V} {l : List Int} {t : TypeId} {h h' : Hp} {a : V} (q : l.length = 20) (hp : storeV P t h a (.agg (ar20 E l [])) = some h') : storeV P t h a (.agg (l.map E)) = some h' := by rw [← ar20_nil q]; exact hp
theorem rns_ar20 {f : Nat → Nat} {k : IntKind} {l : List Int} {r : List V} : V.rns f (ar20 (eI k) l r) = ar20 (eI k) l (V.rns f r) := rfl
theorem les_ar20 {vn : Nat → Bool} {E : Int → V} {l : List Int} {r r' : List V} (hr : V.les vn r r') : V.les vn (ar20 E l r) (ar20 E l r') := by
  unfold ar20
  repeat (first | exact hr | refine V.les_cons (V.le_refl _ _) ?_)
theorem cvs_ar20 {h h' : Hp} {E : Int → V} {l : List Int} {r r' : List V} (hE : ∀ x, Conv h h' (E x) (E x)) (hr : Convs h h' r r') : Convs h h' (ar20 E l r) (ar20 E l r') := by
  unfold ar20
  repeat (first | exact hr | refine Convs.cons (hE _) ?_)
def aeq20 (a b : List Int) (r : Bool) : Bool := ((a.getD 0 0 == b.getD 0 0) && ((a.getD 1 0 == b.getD 1 0) && ((a.getD 2 0 == b.getD 2 0) && ((a.getD 3 0 == b.getD 3 0) && ((a.getD 4 0 == b.getD 4 0) && ((a.getD 5 0 == b.getD 5 0) && ((a.getD 6 0 == b.getD 6 0) && ((a.getD 7 0 == b.getD 7 0) && ((a.getD 8 0 == b.getD 8 0) && ((a.getD 9 0 == b.getD 9 0) && ((a.getD 10 0 == b.getD 10 0) && ((a.getD 11 0 == b.getD 11 0) && ((a.getD 12 0 == b.getD 12 0) && ((a.getD 13 0 == b.getD 13 0) && ((a.getD 14 0 == b.getD 14 0) && ((a.getD 15 0 == b.getD 15 0) && ((a.getD 16 0 == b.getD 16 0) && ((a.getD 17 0 == b.getD 17 0) && ((a.getD 18 0 == b.getD 18 0) && ((a.getD 19 0 == b.getD 19 0) && r))))))))))))))))))))
theorem aeq20_iff {a b : List Int} (ha : a.length = 20) (hb : b.length = 20) (r : Bool) : aeq20 a b r = ((a == b) && r) := by
  have e : aeq20 a b r = ((List.range 20).all (fun i => a.getD i 0 == b.getD i 0) && r) := by
    simp only [aeq20, show List.range 20 = [0, 1, 2, 3, 4, 5, 6, 7, 8, 9, 10, 11, 12, 13, 14, 15, 16, 17, 18, 19] from rfl, List.all_cons, List.all_nil, Bool.and_assoc, Bool.true_and, Bool.and_true]
  rw [e, range_all ha hb]
def ar32 (E : Int → V) (l : List Int) (r : List V) : List V := E (l.getD 0 0) :: E (l.getD 1 0) :: E (l.getD 2 0) :: E (l.getD 3 0) :: E (l.getD 4 0) :: E (l.getD 5 0) :: E (l.getD 6 0) :: E (l.getD 7 0) :: E (l.getD 8 0) :: E (l.getD 9 0) :: E (l.getD 10 0) :: E (l.getD 11 0) :: E (l.getD 12 0) :: E (l.getD 13 0) :: E (l.getD 14 0) :: E (l.getD 15 0) :: E (l.getD 16 0) :: E (l.getD 17 0) :: E (l.getD 18 0) :: E (l.getD 19 0) :: E (l.getD 20 0) :: E (l.getD 21 0) :: E (l.getD 22 0) :: E (l.getD 23 0) :: E (l.getD 24 0) :: E (l.getD 25 0) :: E (l.getD 26 0) :: E (l.getD 27 0) :: E (l.getD 28 0) :: E (l.getD 29 0) :: E (l.getD 30 0) :: E (l.getD 31 0) :: r
theorem ar32_map {E : Int → V} {l : List Int} (h : l.length = 32) (r : List V) : ar32 E l r = l.map E ++ r := by
  rw [← range_getD h]; rfl
theorem ar32_nil {E : Int → V} {l : List Int} (h : l.length = 32) : ar32 E l [] = l.map E := by rw [ar32_map h]; simp
theorem to32 {P : Program} {E : Int → V} {l : List Int} {t : TypeId} {cs : List V} (h : l.length = 32) (hp : partV P t cs = some (.agg (ar32 E l []))) : partV P t cs = some (.agg (l.map E)) := by rw [hp, ar32_nil h]
theorem stE32 {P : Program} {E : Int → V} {l : List Int} {t : TypeId} {h h' : Hp} {a : V} (q : l.length = 32) (hp : storeV P t h a (.agg (ar32 E l [])) = some h') : storeV P t h a (.agg (l.map E)) = some h' := by rw [← ar32_nil q]; exact hp
theorem rns_ar32 {f : Nat → Nat} {k : IntKind} {l : List Int} {r : List V} : V.rns f (ar32 (eI k) l r) = ar32 (eI k) l (V.rns f r) := rfl
theorem les_ar32 {vn : Nat → Bool} {E : Int → V} {l : List Int} {r r' : List V} (hr : V.les vn r r') : V.les vn (ar32 E l r) (ar32 E l r') := by
  unfold ar32
  repeat (first | exact hr | refine V.les_cons (V.le_refl _ _) ?_)
theorem cvs_ar32 {h h' : Hp} {E : Int → V} {l : List Int} {r r' : List V} (hE : ∀ x, Conv h h' (E x) (E x)) (hr : Convs h h' r r') : Convs h h' (ar32 E l r) (ar32 E l r') := by
  unfold ar32
  repeat (first | exact hr | refine Convs.cons (hE _) ?_)
def aeq32 (a b : List Int) (r : Bool) : Bool := ((a.getD 0 0 == b.getD 0 0) && ((a.getD 1 0 == b.getD 1 0) && ((a.getD 2 0 == b.getD 2 0) && ((a.getD 3 0 == b.getD 3 0) && ((a.getD 4 0 == b.getD 4 0) && ((a.getD 5 0 == b.getD 5 0) && ((a.getD 6 0 == b.getD 6 0) && ((a.getD 7 0 == b.getD 7 0) && ((a.getD 8 0 == b.getD 8 0) && ((a.getD 9 0 == b.getD 9 0) && ((a.getD 10 0 == b.getD 10 0) && ((a.getD 11 0 == b.getD 11 0) && ((a.getD 12 0 == b.getD 12 0) && ((a.getD 13 0 == b.getD 13 0) && ((a.getD 14 0 == b.getD 14 0) && ((a.getD 15 0 == b.getD 15 0) && ((a.getD 16 0 == b.getD 16 0) && ((a.getD 17 0 == b.getD 17 0) && ((a.getD 18 0 == b.getD 18 0) && ((a.getD 19 0 == b.getD 19 0) && ((a.getD 20 0 == b.getD 20 0) && ((a.getD 21 0 == b.getD 21 0) && ((a.getD 22 0 == b.getD 22 0) && ((a.getD 23 0 == b.getD 23 0) && ((a.getD 24 0 == b.getD 24 0) && ((a.getD 25 0 == b.getD 25 0) && ((a.getD 26 0 == b.getD 26 0) && ((a.getD 27 0 == b.getD 27 0) && ((a.getD 28 0 == b.getD 28 0) && ((a.getD 29 0 == b.getD 29 0) && ((a.getD 30 0 == b.getD 30 0) && ((a.getD 31 0 == b.getD 31 0) && r))))))))))))))))))))))))))))))))
theorem aeq32_iff {a b : List Int} (ha : a.length = 32) (hb : b.length = 32) (r : Bool) : aeq32 a b r = ((a == b) && r) := by
  have e : aeq32 a b r = ((List.range 32).all (fun i => a.getD i 0 == b.getD i 0) && r) := by
    simp only [aeq32, show List.range 32 = [0, 1, 2, 3, 4, 5, 6, 7, 8, 9, 10, 11, 12, 13, 14, 15, 16, 17, 18, 19, 20, 21, 22, 23, 24, 25, 26, 27, 28, 29, 30, 31] from rfl, List.all_cons, List.all_nil, Bool.and_assoc, Bool.true_and, Bool.and_true]
  rw [e, range_all ha hb]
def ar64 (E : Int → V) (l : List Int) (r : List V) : List V := E (l.getD 0 0) :: E (l.getD 1 0) :: E (l.getD 2 0) :: E (l.getD 3 0) :: E (l.getD 4 0) :: E (l.getD 5 0) :: E (l.getD 6 0) :: E (l.getD 7 0) :: E (l.getD 8 0) :: E (l.getD 9 0) :: E (l.getD 10 0) :: E (l.getD 11 0) :: E (l.getD 12 0) :: E (l.getD 13 0) :: E (l.getD 14 0) :: E (l.getD 15 0) :: E (l.getD 16 0) :: E (l.getD 17 0) :: E (l.getD 18 0) :: E (l.getD 19 0) :: E (l.getD 20 0) :: E (l.getD 21 0) :: E (l.getD 22 0) :: E (l.getD 23 0) :: E (l.getD 24 0) :: E (l.getD 25 0) :: E (l.getD 26 0) :: E (l.getD 27 0) :: E (l.getD 28 0) :: E (l.getD 29 0) :: E (l.getD 30 0) :: E (l.getD 31 0) :: E (l.getD 32 0) :: E (l.getD 33 0) :: E (l.getD 34 0) :: E (l.getD 35 0) :: E (l.getD 36 0) :: E (l.getD 37 0) :: E (l.getD 38 0) :: E (l.getD 39 0) :: E (l.getD 40 0) :: E (l.getD 41 0) :: E (l.getD 42 0) :: E (l.getD 43 0) :: E (l.getD 44 0) :: E (l.getD 45 0) :: E (l.getD 46 0) :: E (l.getD 47 0) :: E (l.getD 48 0) :: E (l.getD 49 0) :: E (l.getD 50 0) :: E (l.getD 51 0) :: E (l.getD 52 0) :: E (l.getD 53 0) :: E (l.getD 54 0) :: E (l.getD 55 0) :: E (l.getD 56 0) :: E (l.getD 57 0) :: E (l.getD 58 0) :: E (l.getD 59 0) :: E (l.getD 60 0) :: E (l.getD 61 0) :: E (l.getD 62 0) :: E (l.getD 63 0) :: r
theorem ar64_map {E : Int → V} {l : List Int} (h : l.length = 64) (r : List V) : ar64 E l r = l.map E ++ r := by
  rw [← range_getD h]; rfl
theorem ar64_nil {E : Int → V} {l : List Int} (h : l.length = 64) : ar64 E l [] = l.map E := by rw [ar64_map h]; simp
theorem to64 {P : Program} {E : Int → V} {l : List Int} {t : TypeId} {cs : List V} (h : l.length = 64) (hp : partV P t cs = some (.agg (ar64 E l []))) : partV P t cs = some (.agg (l.map E)) := by rw [hp, ar64_nil h]
theorem stE64 {P : Program} {E : Int → V} {l : List Int} {t : TypeId} {h h' : Hp} {a : V} (q : l.length = 64) (hp : storeV P t h a (.agg (ar64 E l [])) = some h') : storeV P t h a (.agg (l.map E)) = some h' := by rw [← ar64_nil q]; exact hp
theorem rns_ar64 {f : Nat → Nat} {k : IntKind} {l : List Int} {r : List V} : V.rns f (ar64 (eI k) l r) = ar64 (eI k) l (V.rns f r) := rfl
theorem les_ar64 {vn : Nat → Bool} {E : Int → V} {l : List Int} {r r' : List V} (hr : V.les vn r r') : V.les vn (ar64 E l r) (ar64 E l r') := by
  unfold ar64
  repeat (first | exact hr | refine V.les_cons (V.le_refl _ _) ?_)
theorem cvs_ar64 {h h' : Hp} {E : Int → V} {l : List Int} {r r' : List V} (hE : ∀ x, Conv h h' (E x) (E x)) (hr : Convs h h' r r') : Convs h h' (ar64 E l r) (ar64 E l r') := by
  unfold ar64
  repeat (first | exact hr | refine Convs.cons (hE _) ?_)
def aeq64 (a b : List Int) (r : Bool) : Bool := ((a.getD 0 0 == b.getD 0 0) && ((a.getD 1 0 == b.getD 1 0) && ((a.getD 2 0 == b.getD 2 0) && ((a.getD 3 0 == b.getD 3 0) && ((a.getD 4 0 == b.getD 4 0) && ((a.getD 5 0 == b.getD 5 0) && ((a.getD 6 0 == b.getD 6 0) && ((a.getD 7 0 == b.getD 7 0) && ((a.getD 8 0 == b.getD 8 0) && ((a.getD 9 0 == b.getD 9 0) && ((a.getD 10 0 == b.getD 10 0) && ((a.getD 11 0 == b.getD 11 0) && ((a.getD 12 0 == b.getD 12 0) && ((a.getD 13 0 == b.getD 13 0) && ((a.getD 14 0 == b.getD 14 0) && ((a.getD 15 0 == b.getD 15 0) && ((a.getD 16 0 == b.getD 16 0) && ((a.getD 17 0 == b.getD 17 0) && ((a.getD 18 0 == b.getD 18 0) && ((a.getD 19 0 == b.getD 19 0) && ((a.getD 20 0 == b.getD 20 0) && ((a.getD 21 0 == b.getD 21 0) && ((a.getD 22 0 == b.getD 22 0) && ((a.getD 23 0 == b.getD 23 0) && ((a.getD 24 0 == b.getD 24 0) && ((a.getD 25 0 == b.getD 25 0) && ((a.getD 26 0 == b.getD 26 0) && ((a.getD 27 0 == b.getD 27 0) && ((a.getD 28 0 == b.getD 28 0) && ((a.getD 29 0 == b.getD 29 0) && ((a.getD 30 0 == b.getD 30 0) && ((a.getD 31 0 == b.getD 31 0) && ((a.getD 32 0 == b.getD 32 0) && ((a.getD 33 0 == b.getD 33 0) && ((a.getD 34 0 == b.getD 34 0) && ((a.getD 35 0 == b.getD 35 0) && ((a.getD 36 0 == b.getD 36 0) && ((a.getD 37 0 == b.getD 37 0) && ((a.getD 38 0 == b.getD 38 0) && ((a.getD 39 0 == b.getD 39 0) && ((a.getD 40 0 == b.getD 40 0) && ((a.getD 41 0 == b.getD 41 0) && ((a.getD 42 0 == b.getD 42 0) && ((a.getD 43 0 == b.getD 43 0) && ((a.getD 44 0 == b.getD 44 0) && ((a.getD 45 0 == b.getD 45 0) && ((a.getD 46 0 == b.getD 46 0) && ((a.getD 47 0 == b.getD 47 0) && ((a.getD 48 0 == b.getD 48 0) && ((a.getD 49 0 == b.getD 49 0) && ((a.getD 50 0 == b.getD 50 0) && ((a.getD 51 0 == b.getD 51 0) && ((a.getD 52 0 == b.getD 52 0) && ((a.getD 53 0 == b.getD 53 0) && ((a.getD 54 0 == b.getD 54 0) && ((a.getD 55 0 == b.getD 55 0) && ((a.getD 56 0 == b.getD 56 0) && ((a.getD 57 0 == b.getD 57 0) && ((a.getD 58 0 == b.getD 58 0) && ((a.getD 59 0 == b.getD 59 0) && ((a.getD 60 0 == b.getD 60 0) && ((a.getD 61 0 == b.getD 61 0) && ((a.getD 62 0 == b.getD 62 0) && ((a.getD 63 0 == b.getD 63 0) && r))))))))))))))))))))))))))))))))))))))))))))))))))))))))))))))))
theorem aeq64_iff {a b : List Int} (ha : a.length = 64) (hb : b.length = 64) (r : Bool) : aeq64 a b r = ((a == b) && r) := by
  have e : aeq64 a b r = ((List.range 64).all (fun i => a.getD i 0 == b.getD i 0) && r) := by
    simp only [aeq64, show List.range 64 = [0, 1, 2, 3, 4, 5, 6, 7, 8, 9, 10, 11, 12, 13, 14, 15, 16, 17, 18, 19, 20, 21, 22, 23, 24, 25, 26, 27, 28, 29, 30, 31, 32, 33, 34, 35, 36, 37, 38, 39, 40, 41, 42, 43, 44, 45, 46, 47, 48, 49, 50, 51, 52, 53, 54, 55, 56, 57, 58, 59, 60, 61, 62, 63] from rfl, List.all_cons, List.all_nil, Bool.and_assoc, Bool.true_and, Bool.and_true]
  rw [e, range_all ha hb]
theorem un_neg {P : Program} (k : IntKind) (n : Int) : unV P .neg (.sc (.int k n)) = some (.sc (.int k (k.wrap (0 - n)))) := rfl
theorem un_xorU {P : Program} {k : IntKind} (hk : k.signed = false) (n : Int) : unV P .xor (.sc (.int k n)) = some (.sc (.int k (bits .xor k k.max n))) := by
  cases k <;> first | rfl | cases hk
def mkl {α : Type} (by_ : Nat) (z : α) (n c : Int) : Option (List α) := if 0 < n ∧ n ≤ c ∧ c.toNat * by_ ≤ lim then some (List.replicate n.toNat z) else none
theorem mkL {k1 k2 : IntKind} {P : Program} {h h' : Hp} {t e : TypeId} {ti : TI} {i : Nat} {α : Type} {E : α → V} {sz by_ : Nat} {z : Value} {ag : Bool} {j c : Int} {y : α} (ht : tiOf P t = some ⟨.slice e, sz, by_, z⟩) (he : tiOf P e = some ti) (h1 : 1 ≤ ti.bytes ∧ ti.size = 1 ∧ ti.zero.cells.size = 1) (hz : ti.zero.cells.toList.map ofCell = [E y]) (ho : (E y).one = true) (hag : isAggD ti.desc = ag) {r : List α}
    (hm : mkl ti.bytes y j c = some r) (hl : h.length = i) (hh : h ++ [some ⟨e, r.map E⟩] = h') : makeV P t (.sc (.int k1 j)) (.sc (.int k2 c)) h = some (.sl i 0 r.length 1 ag, h') := by
  obtain ⟨h2, h3, h4⟩ := h1
  unfold mkl at hm
  split at hm
  · rename_i hlim
    injection hm with hm
    subst hm hl hh hag
    simp only [makeV, ht, he]
    rw [if_pos ⟨by omega, hlim.2.1, hlim.2.2, h2, by omega, by rw [h4, h3], by rw [hz]; simp [ho]⟩, hz, if_neg (by omega)]
    simp only [h3]
    have : ∀ n, (List.replicate n [E y]).flatten = (List.replicate n y).map E := fun n => by
      induction n with
      | zero => rfl
      | succ n ih => simp only [List.replicate_succ, List.flatten_cons, ih, List.map_cons]; rfl
    rw [this]; simp
  · cases hm
end Go.Vm
set_option linter.unusedSimpArgs false
set_option linter.unusedVariables false
namespace Go.Vm
open Go
theorem zl {a b : Nat} (h : Nat.ble a b = true := by rfl) : a ≤ b := Nat.le_of_ble_eq_true h
theorem zR {p : Prop} (h : p := by first | rfl | (simp only [V.rn, V.rns, rns_eI, rns_eB] <;> rfl)) : p := h
theorem zF {p : Prop} (h : p := by first | rfl | simp [V.rf, V.rfs, rfs_eI, rfs_eB]) : p := h
section
variable {P : Program} {ops : Array Oper} {l : List Oper} {n N : Nat} {fr : List (Nat × V)} {h h' : Hp} {K : List V → Hp → Prop} {op : Op} {ty : TypeId} {pos : String} {aft : Array Edge} {t : Nat} {v a b : V} {x y : Operand} {d : Option Tmp} {g : Option (Nat × Bool)} {s s' : List V} {Q : Ex → List V → Hp → Prop}
theorem zw (hd : absOp P O0 ⟨some t, op, ty, pos, aft, none⟩ (mkF n fr) h = some (v, h')) (k : OpsW P N ops l (mkF n ((t, v) :: fr)) h' K) : OpsW P N ops (⟨some t, op, ty, pos, aft, none⟩ :: l) (mkF n fr) h K := wS (sv hd) k
theorem zm (hx : evF n fr x = some a) (k : OpsW P N ops l (mkF n ((t, a) :: fr)) h K) : OpsW P N ops (⟨some t, .move x, ty, pos, aft, none⟩ :: l) (mkF n fr) h K := wS (sv (d_move hx)) k
theorem za (hx : evF n fr x = some a) (k : OpsW P N ops l (mkF n ((t, a) :: fr)) h K) : OpsW P N ops (⟨some t, .assign x, ty, pos, aft, none⟩ :: l) (mkF n fr) h K := wS (sv (d_assign hx)) k
theorem zn {K' : List V → Hp → Prop} (hk : K' s h) : OpsW P N ops [] s h (Ex.then K' Q .normal) := OpsW.nil (Ex.then_mk hk)
theorem zq {c : Code} {id : Nat} (hr : OpsW P N l.toArray l s h (Ex.then (AB P N c Q) Q .normal)) : AB P N (.seq (.region id l.toArray false) c) Q s h := AB.seq (AB.rw hr)
end
theorem zG {N n : Nat} {fr fr' : List (Nat × V)} {h h' : Hp} (σ : List Nat)
    (hf : FLe noN (V.rn (sg σ h.length)) fr fr' := by repeat (first | exact FLe.nil | refine FLe.same rfl ?_ | refine FLe.le rfl V.le_nil ?_ | refine FLe.le rfl V.le_row ?_ | refine FLe.le rfl (V.le_arr (fun _ => rfl)) ?_))
    (hh : HLe (sg σ h.length) h σ h' := by repeat (first | exact HLe.nil | refine HLe.dead ?_ | refine HLe.live rfl V.les_nil rfl ?_ | refine HLe.live rfl (les_map (fun _ => rfl) _) (all_map (fun _ => rfl) _) ?_ | refine HLe.live rfl (les_flat (fun _ => rfl) _) (all_flat (fun _ => rfl) _) ?_ | refine HLe.live rfl (V.les_refl _ _) rfl ?_))
    (hσ : σ.take N = List.range N := by rfl) (hlt : σ.all (fun b => Nat.blt b h.length) = true := by rfl) (hnd : ndB (lvs σ h') = true := by rfl) : Ghost N (mkF n fr) h (mkF n fr') h' := Ghost.rn σ hσ hlt hf hh hnd
theorem Ghost.blk {N : Nat} {s : List V} {h : Hp} {b : Nat} {e : TypeId} {cs cs' : List V} (hb : h[b]? = some (some ⟨e, cs⟩)) (hl : V.les noN cs cs') (ho : cs'.all V.one = true) : Ghost N s h s (h.set b (some ⟨e, cs'⟩)) := by
  intro A M a w hN R
  have hbl : b < h.length := (List.getElem?_eq_some_iff.1 hb).1
  have hget : ∀ {j : Nat} {B : Blk}, (h.set b (some ⟨e, cs'⟩))[j]? = some (some B) → ∃ B0, h[j]? = some (some B0) ∧ B0.e = B.e ∧ V.les noN B0.cells B.cells ∧ (∀ c ∈ B.cells, c.one = true) := by
    intro j B hj
    by_cases hij : b = j
    · subst hij
      rw [List.getElem?_set_self hbl] at hj
      obtain rfl := Option.some.inj (Option.some.inj hj)
      exact ⟨_, hb, rfl, hl, List.all_eq_true.1 ho⟩
    · rw [List.getElem?_set_ne hij] at hj
      exact ⟨B, hj, rfl, V.les_refl _ _, (R.hr.blk j B hj).1⟩
  have hlive : ∀ g, Live M (h.set b (some ⟨e, cs'⟩)) g → Live M h g := by
    rintro g ⟨j, B, hj, hm⟩
    obtain ⟨B0, h1, _⟩ := hget hj
    exact ⟨j, B0, h1, hm⟩
  have hX : ∀ g, Xs A M (h.set b (some ⟨e, cs'⟩)) g → Xs A M h g := fun g hx => hx.elim .inl (fun hl => .inr (hlive g hl))
  refine ⟨M, rfl, ⟨⟨by rw [R.hr.len, List.length_set], R.hr.alt, ?_, ?_, R.hr.glob.avoid fun g _ hx => hX g hx⟩, ⟨R.sr.len, fun t x hx => (R.sr.val t x hx).avoid (fun g _ hx => hX g hx)⟩, R.defers⟩, hlive⟩
  · intro j B hj
    obtain ⟨B0, h1, h2, h3, h4⟩ := hget hj
    refine ⟨h4, ?_⟩
    have hlen : B0.cells.length = B.cells.length := V.les_length h3
    rcases (R.hr.blk j B0 h1).2 with ⟨hn, hc0⟩ | ⟨g, ds, hg, hA, hw, hle, hcs⟩
    · exact .inl ⟨hn, List.eq_nil_of_length_eq_zero (by rw [← hlen, hc0]; rfl)⟩
    · refine .inr ⟨g, ds, hg, hA, by rw [← h2, ← hlen]; exact hw, by rw [← hlen]; exact hle, ?_⟩
      rw [← hlen]
      exact (V.les_sound (fun _ hb => by cases hb) _ _ _ h3 hcs).avoid (fun g _ hx => hX g hx)
  · intro i j B C g hi hj mi mj
    obtain ⟨B1, h1, _⟩ := hget hi
    obtain ⟨C1, k1, _⟩ := hget hj
    exact R.hr.inj i j B1 C1 g h1 k1 mi mj
theorem V.les_app {vn : Nat → Bool} : ∀ {a a' b b' : List V}, V.les vn a a' → V.les vn b b' → V.les vn (a ++ b) (a' ++ b')
  | [], [], b, b', _, h => h
  | x :: a, y :: a', b, b', h, k => by
    unfold V.les at h
    exact V.les_cons h.1 (V.les_app h.2 k)
  | [], _ :: _, _, _, h, _ => by unfold V.les at h; exact h.elim
  | _ :: _, [], _, _, h, _ => by unfold V.les at h; exact h.elim
section
variable {α : Type} {C : α → List V} {K : Nat} {l : List α} {z z' : α} {off : Nat}
theorem splice_flat0 (hC : ∀ x, (C x).length = K) {i : Nat} (hi : l[i]? = some z) {cs : List V} (ho : off + cs.length ≤ K) : splice (l.flatMap C) (0 + i * K + off) cs = (l.take i).flatMap C ++ (splice (C z) off cs ++ (l.drop (i + 1)).flatMap C) := by
  obtain ⟨h1, h2⟩ := List.getElem?_eq_some_iff.1 hi
  have hl : l = l.take i ++ z :: l.drop (i + 1) := by rw [← h2, ← List.drop_eq_getElem_cons h1, List.take_append_drop]
  have hti : (l.take i).length = i := by rw [List.length_take]; omega
  conv => lhs; rw [hl, List.flatMap_append, List.flatMap_cons]
  have hA : ((l.take i).flatMap C).length = i * K := by rw [flat_len hC, hti]
  unfold splice
  rw [Nat.zero_add, List.take_append, List.take_of_length_le (by rw [hA]; omega), hA, show i * K + off - i * K = off by omega, List.take_append_of_le_length (by rw [hC]; omega)]
  rw [show i * K + off + cs.length = i * K + (off + cs.length) by omega, List.drop_append, List.drop_eq_nil_of_le (by rw [hA]; omega), hA, show i * K + (off + cs.length) - i * K = off + cs.length by omega, List.nil_append, List.drop_append_of_le_length (by rw [hC]; omega)]
  simp [List.append_assoc]
theorem wNK {P : Program} {ops : Array Oper} {lo : List Oper} {n N : Nat} {fr : List (Nat × V)} {h h' : Hp} {KK : List V → Hp → Prop} {ty t e : TypeId} {ti : TI} {pos : String} {aft : Array Edge} {v : V} {x y : Operand} {b : Nat} {j : Int}
    (hx : evF n fr x = some (.ptr b (0 + j.toNat * K + off))) (hy : evF n fr y = some v) (hC : ∀ x, (C x).length = K) (h1 : ∀ x, (C x).all V.one = true) (ht : tiOf P t = some ti) (hb : h[b]? = some (some ⟨e, l.flatMap C⟩)) (hi : idx l j = some z) (hf : v.flatOk = true) (hs : v.cells.length = ti.size) (ho : off + ti.size ≤ K)
    (hle : V.les noN (splice (C z) off v.cells) (C z')) (hh : h.set b (some ⟨e, (l.set j.toNat z').flatMap C⟩) = h') (k : OpsW P N ops lo (mkF n fr) h' KK) : OpsW P N ops (⟨none, .store t x y, ty, pos, aft, none⟩ :: lo) (mkF n fr) h KK := by
  obtain ⟨_, _, h3⟩ := idx_some hi
  have h4 := (List.getElem?_eq_some_iff.1 h3).1
  have hbl : b < h.length := (List.getElem?_eq_some_iff.1 hb).1
  have hst : storeV P t h (.ptr b (0 + j.toNat * K + off)) v = some (h.set b (some ⟨e, splice (l.flatMap C) (0 + j.toNat * K + off) v.cells⟩)) := by
    simp only [storeV, ht, hb]
    have hle : (j.toNat + 1) * K ≤ l.length * K := Nat.mul_le_mul_right K h4
    rw [if_pos ⟨hf, hs, by rw [flat_len hC]; rw [Nat.add_mul, Nat.one_mul] at hle; omega⟩]
  refine wN (sv (d_store hx hy hst)) (OpsW.ghost (Ghost.blk (b := b) (e := e) (cs' := (l.set j.toNat z').flatMap C) (List.getElem?_set_self hbl) ?_ (all_flat h1 _)) ?_)
  · rw [splice_flat0 hC h3 (by rw [hs]; exact ho), List.set_eq_take_append_cons_drop, if_pos h4, List.flatMap_append, List.flatMap_cons]
    exact V.les_app (V.les_refl _ _) (V.les_app hle (V.les_refl _ _))
  · rw [List.set_set, hh]; exact k
end
end Go.Vm
set_option linter.unusedSimpArgs false
set_option linter.unusedVariables false
namespace Go.Vm
open Go
def subs {α : Type} (l : List α) (a c : Int) : Option (List α) := if 0 ≤ a ∧ a < c ∧ c ≤ l.length then some ((l.take c.toNat).drop a.toNat) else none
theorem subs_spec {α : Type} {l x : List α} {a c : Int} (h : subs l a c = some x) : 0 ≤ a ∧ a < c ∧ c ≤ l.length ∧ x = (l.take c.toNat).drop a.toNat ∧ x.length = c.toNat - a.toNat := by
  unfold subs at h
  split at h
  · rename_i hc
    injection h with h
    refine ⟨hc.1, hc.2.1, hc.2.2, h.symm, ?_⟩
    rw [← h, List.length_drop, List.length_take]; omega
  · cases h
theorem subs_idx {α : Type} {l x : List α} {a c j : Int} {y : α} (h : subs l a c = some x) (hx : idx x j = some y) : l[a.toNat + j.toNat]? = some y := by
  obtain ⟨_, _, _, e, _⟩ := subs_spec h
  obtain ⟨_, _, h3⟩ := idx_some hx
  rw [e, List.getElem?_drop, List.getElem?_take] at h3
  split at h3
  · exact h3
  · cases h3
section
variable {P : Program} {h h' : Hp} {t e : TypeId} {ti : TI} {α : Type} {E : α → V} {l x m : List α} {sz by_ b : Nat} {z : Value} {ag : Bool} {lo hi : Option V} {a c j : Int} {y : α} {k : IntKind} {N n : Nat} {i q K : Nat}
theorem slSS (hq : l.length = q) (ht : tiOf P t = some ⟨.slice e, sz, by_, z⟩) (he : tiOf P e = some ti) (hK : ti.size = K) (h1 : asLo lo = some a) (h2 : asHi hi q = some c) (hs : subs l a c = some x) : sliceV P t h (.sl b 0 q K ag) lo hi = some (.sl b (a.toNat * K) x.length K ag) := by
  subst hK hq
  obtain ⟨s1, s2, s3, s4, s5⟩ := subs_spec hs
  simp only [sliceV, ht, he, h1, h2]
  rw [if_pos ⟨trivial, s1, by omega, s3⟩, s5]
  by_cases h0 : a = 0
  · subst h0; simp
  · rw [if_neg h0, if_pos s2, Nat.zero_add]
theorem slPre (hq : l.length = q) (ht : tiOf P t = some ⟨.slice e, sz, by_, z⟩) (he : tiOf P e = some ti) (hK : ti.size = K) (h1 : asLo lo = some 0) (h2 : asHi hi q = some c) (hs : sub l 0 c = some x) : sliceV P t h (.sl b 0 q K ag) lo hi = some (.sl b 0 x.length K ag) := by
  subst hK hq
  unfold sub at hs
  split at hs
  · rename_i hc
    injection hs with hs
    have hl : x.length = c.toNat := by rw [← hs]; simp; omega
    simp only [sliceV, ht, he, h1, h2]
    rw [if_pos ⟨trivial, by omega, hc.2.1, hc.2.2⟩, if_pos trivial, hl]
  · cases hs
theorem slAS (ht : tiOf P t = some ⟨.array N e, sz, by_, z⟩) (he : tiOf P e = some ti) (hsz : ti.size = 1) (hag : isAggD ti.desc = ag) (hb : h[b]? = some (some ⟨i, l.map E⟩)) (hl : l.length = N) (hN : N ≤ lim) (h1 : asLo lo = some a) (h2 : asHi hi N = some c) (hs : subs l a c = some x) : sliceV P t h (.ptr b 0) lo hi = some (.sl b (a.toNat * 1) x.length 1 ag) := by
  subst hag
  obtain ⟨s1, s2, s3, s4, s5⟩ := subs_spec hs
  simp only [sliceV, ht, he, h1, h2, hb]
  rw [if_pos ⟨by omega, hN, s1, s2, by omega, by simp [hsz, hl]⟩, hsz, s5, Nat.zero_add]
theorem iaY (hq : x.length = q) (ht : tiOf P t = some ⟨.slice e, sz, by_, z⟩) (he : tiOf P e = some ti) (hK : ti.size = 1) (hx : idx x j = some y) : indexAtV P t (.sl b (a.toNat * 1) q 1 ag) (.sc (.int k j)) = some (.ptr b (a.toNat + j.toNat)) := by
  obtain ⟨h2, h3, _⟩ := idx_some hx
  subst hq
  simp [indexAtV, ht, asIdx, he, hK, h2, h3]
theorem ldY (ht : tiOf P t = some ti) (hd : isAggD ti.desc = false) (hb : h[b]? = some (some ⟨i, l.map E⟩)) (hs : subs l a c = some x) (hx : idx x j = some y) : loadV P t h (.ptr b (a.toNat + j.toNat)) = some (E y) := by
  have h3 := subs_idx hs hx
  simp [loadV, hb, partV, ht, hd, h3]
theorem apS (ht : tiOf P t = some ⟨.array N e, sz, by_, z⟩) (hN : 0 < N) (hq : x.length = q) (hx : arp N x = some m) : arrPV P t (.sl b n q 1 ag) = some (.ptr b n) := by
  unfold arp at hx
  split at hx
  · rename_i hl
    simp only [arrPV, ht]
    rw [if_pos ⟨hN, by omega⟩]
  · cases hx
theorem ldPA (ht : tiOf P t = some ⟨.array N e, sz, by_, z⟩) (hsz : sz = N) (hb : h[b]? = some (some ⟨i, l.map E⟩)) (hs : subs l a c = some x) (hx : arp N x = some m) : loadV P t h (.ptr b (a.toNat * 1)) = some (.agg (m.map E)) := by
  subst hsz
  obtain ⟨s1, s2, s3, s4, s5⟩ := subs_spec hs
  unfold arp at hx
  split at hx
  · rename_i hl
    injection hx with hx
    simp only [loadV, hb, partV, ht, isAggD, if_true, Nat.mul_one]
    have hlen : sz ≤ ((l.map E).drop a.toNat).length := by simp; omega
    rw [if_pos hlen]
    congr 2
    rw [← hx, s4, List.map_take, List.map_drop, List.map_take, List.drop_take, List.take_take, Nat.min_eq_left (by omega)]
  · cases hx
theorem ldPB (ht : tiOf P t = some ⟨.array N e, sz, by_, z⟩) (hsz : sz = N) (hb : h[b]? = some (some ⟨i, l.map E⟩)) (hx : arp N l = some m) : loadV P t h (.ptr b 0) = some (.agg (m.map E)) := by
  subst hsz
  unfold arp at hx
  split at hx
  · rename_i hl
    injection hx with hx
    simp only [loadV, hb, partV, ht, isAggD, if_true, List.drop_zero]
    rw [if_pos (by simp; omega), ← hx, List.map_take]
  · cases hx
theorem srcP (hb : h[b]? = some (some ⟨i, l.map E⟩)) (hE : ∀ x, (E x).one = true) (hs : subs l a c = some x) : srcV h 1 (.sl b (a.toNat * 1) x.length 1 ag) = some (x.map E, x.length) := by
  obtain ⟨s1, s2, s3, s4, s5⟩ := subs_spec hs
  simp only [srcV, hb, Nat.mul_one]
  rw [if_pos (by simp; omega)]
  simp only [Option.some.injEq, Prod.mk.injEq, and_true]
  rw [s5, s4, List.map_drop, List.map_take, List.drop_take]
end
theorem Ghost.cut {N n : Nat} {fr : List (Nat × V)} {h : Hp} {b e t q K k : Nat} {ag : Bool} {cs : List V} (hl : evF n fr (.tmp t) = some (.sl b 0 q K ag)) (hb : h[b]? = some (some ⟨e, cs⟩)) : Ghost N (mkF n fr) h (mkF n fr) (h.set b (some ⟨e, cs.take k⟩)) := by
  intro A M a w hN R
  have hbl : b < h.length := (List.getElem?_eq_some_iff.1 hb).1
  have hget : ∀ {j : Nat} {B : Blk}, (h.set b (some ⟨e, cs.take k⟩))[j]? = some (some B) → (j = b ∧ B = ⟨e, cs.take k⟩) ∨ (h[j]? = some (some B) ∧ j ≠ b) := by
    intro j B hj
    by_cases hij : b = j
    · subst hij
      rw [List.getElem?_set_self hbl] at hj
      exact .inl ⟨rfl, (Option.some.inj (Option.some.inj hj)).symm⟩
    · rw [List.getElem?_set_ne hij] at hj
      exact .inr ⟨hj, fun hh => hij hh.symm⟩
  have hlive : ∀ g, Live M (h.set b (some ⟨e, cs.take k⟩)) g → Live M h g := by
    rintro g ⟨j, B, hj, hm⟩
    rcases hget hj with ⟨rfl, _⟩ | ⟨h1, _⟩
    · exact ⟨j, _, hb, hm⟩
    · exact ⟨j, B, h1, hm⟩
  have hX : ∀ g, Xs A M (h.set b (some ⟨e, cs.take k⟩)) g → Xs A M h g := fun g hx => hx.elim .inl (fun hl => .inr (hlive g hl))
  refine ⟨M, rfl, ⟨⟨by rw [R.hr.len, List.length_set], R.hr.alt, ?_, ?_, R.hr.glob.avoid fun g _ hx => hX g hx⟩, ⟨R.sr.len, fun t x hx => (R.sr.val t x hx).avoid (fun g _ hx => hX g hx)⟩, R.defers⟩, hlive⟩
  · intro j B hj
    rcases hget hj with ⟨rfl, rfl⟩ | ⟨h1, hne⟩
    · obtain ⟨hone, hcase⟩ := R.hr.blk j _ hb
      refine ⟨fun c hc => hone c (List.mem_of_mem_take hc), ?_⟩
      rcases hcase with ⟨hn, hc0⟩ | ⟨g, ds, hg, hA, hw, hle, hcs⟩
      · simp only at hc0
        subst hc0
        exact .inl ⟨hn, by simp⟩
      · refine .inr ⟨g, ds, hg, hA, ?_, by simp only [List.length_take] at hle ⊢; omega, ?_⟩
        · rcases hw with hw | ⟨es, clock, hm, hok, heq⟩
          · exact .inl hw
          · exfalso
            have hev := evF_ev hl
            simp only [ev] at hev
            have hv := R.sr.val t (.sl j 0 q K ag) hev
            unfold VR at hv
            rcases hv with ⟨hm0, _⟩ | ⟨g', cap, e', sz, hm', _, _, _, _, hshp, _⟩
            · rw [hg] at hm0; cases hm0
            · rw [hg] at hm'
              obtain rfl := Option.some.inj (Option.some.inj hm')
              unfold World.shape? at hshp
              rw [hm] at hshp
              cases hshp
        · have := hcs.take k
          rw [List.take_take] at this
          simp only [List.length_take]
          exact this.avoid (fun g _ hx => hX g hx)
    · obtain ⟨hone, hcase⟩ := R.hr.blk j B h1
      refine ⟨hone, ?_⟩
      rcases hcase with hn | ⟨g, ds, hg, hA, hw, hle, hcs⟩
      · exact .inl hn
      · exact .inr ⟨g, ds, hg, hA, hw, hle, hcs.avoid (fun g _ hx => hX g hx)⟩
  · intro i j B C g hi hj mi mj
    have f : ∀ {j : Nat} {B : Blk}, (h.set b (some ⟨e, cs.take k⟩))[j]? = some (some B) → ∃ B0, h[j]? = some (some B0) := by
      intro j B hj
      rcases hget hj with ⟨e1, _⟩ | ⟨e1, _⟩
      · exact ⟨_, by rw [e1]; exact hb⟩
      · exact ⟨_, e1⟩
    obtain ⟨B1, h1⟩ := f hi
    obtain ⟨C1, k1⟩ := f hj
    exact R.hr.inj i j B1 C1 g h1 k1 mi mj
section
variable {N n b e t q K : Nat} {fr : List (Nat × V)} {h h' : Hp} {ag : Bool} {α : Type} {E : α → V} {C : α → List V} {l x : List α} {c : Int}
theorem Ghost.cutM (hl : evF n fr (.tmp t) = some (.sl b 0 q 1 ag)) (hb : h[b]? = some (some ⟨e, l.map E⟩)) (hs : sub l 0 c = some x) (hh : h.set b (some ⟨e, x.map E⟩) = h') : Ghost N (mkF n fr) h (mkF n fr) h' := by
  subst hh
  unfold sub at hs
  split at hs
  · injection hs with hs
    have : x.map E = (l.map E).take c.toNat := by rw [← hs, ← List.map_take]; simp
    rw [this]
    exact Ghost.cut hl hb
  · cases hs
theorem Ghost.cutF (hC : ∀ x, (C x).length = K) (hl : evF n fr (.tmp t) = some (.sl b 0 q K ag)) (hb : h[b]? = some (some ⟨e, l.flatMap C⟩)) (hs : sub l 0 c = some x) (hh : h.set b (some ⟨e, x.flatMap C⟩) = h') : Ghost N (mkF n fr) h (mkF n fr) h' := by
  subst hh
  unfold sub at hs
  split at hs
  · injection hs with hs
    have : x.flatMap C = (l.flatMap C).take (c.toNat * K) := by rw [← hs]; simp only [Int.toNat_zero, List.drop_zero]; exact (flat_take hC _ _).symm
    rw [this]
    exact Ghost.cut hl hb
  · cases hs
end
abbrev CA4 (E : Int → V) (x : List Int) : List V := ar4 E x []
abbrev CA32 (E : Int → V) (x : List Int) : List V := ar32 E x []
@[simp] theorem rns_CA4 {f : Nat → Nat} {k : IntKind} (l : List (List Int)) : V.rns f (l.flatMap (CA4 (eI k))) = l.flatMap (CA4 (eI k)) := rns_flat (fun _ => rfl) l
@[simp] theorem rns_CA32 {f : Nat → Nat} {k : IntKind} (l : List (List Int)) : V.rns f (l.flatMap (CA32 (eI k))) = l.flatMap (CA32 (eI k)) := rns_flat (fun _ => rfl) l
theorem bldLE {P : Program} {t : TypeId} {n : Nat} {ps ps' : List (Nat × V)} {h : Hp} {r : V × Hp} (e : ps = ps') (hb : buildSliceV P t n ps' h = some r) : buildSliceV P t n ps h = some r := by rw [e]; exact hb
theorem Conv.rowKA {C : List Int → List V} {E : Int → V} {K : Nat} {l : List (List Int)} (hC : ∀ x, (C x).length = K) (h1K : ∀ x, (C x).all V.one = true) (hsh : ∀ x, (C x).all V.shut = true) (hcx : ∀ x ∈ l, C x = x.map E) {h h' : Hp} (hs : Sub h h') {b n : Nat} {e : TypeId} (hb : h[b]? = some (some ⟨e, l.flatMap C⟩)) (hb' : h'[b]? = some none) (hn : n = l.length) : Conv h h' (.sl b 0 n K true) (.row none K (l.map (eA E))) := by
  have := Conv.rowK hC h1K hsh hs hb hb' hn
  rwa [show (l.map fun x => V.agg (C x)) = l.map (eA E) from List.map_congr_left fun x hx => by rw [hcx x hx]] at this
theorem AB.scope {P : Program} {N : Nat} {Q : Ex → List V → Hp → Prop} {s : List V} {h : Hp} {c : Code} (hh : AB P N c Q s h) : AB P N (.scope c) Q s h := by
  intro A M0 M h0 w0 a w hN hM G R
  refine wp_scope_straight (Code.wp_mono (fun e a' w' ⟨x, s1, h1, M1, he, hq, G1, R1⟩ => ?_) (hh A M0 M h0 w0 a w hN hM G R))
  subst he
  cases x with
  | normal => exact ⟨.normal, s1, h1, M1, rfl, hq, G1, R1⟩
  | exit i => exact ⟨.exit i, s1, h1, M1, rfl, hq, G1, R1⟩
  | ret => exact ⟨.ret, s1, h1, M1, rfl, hq, G1, R1⟩
theorem AB.label {P : Program} {N : Nat} {Q : Ex → List V → Hp → Prop} {s : List V} {h : Hp} {l : Nat} (hq : Q .normal s h) : AB P N (.label l) Q s h := by
  intro A M0 M h0 w0 a w hN hM G R
  exact wp_label ⟨.normal, s, h, M, rfl, hq, G, R⟩
def add64 (x y c : Int) : Option (Int × Int) := if c.toNat ≤ 1 then some ((((x.toNat + y.toNat + c.toNat) % 18446744073709551616 : Nat) : Int), (((x.toNat + y.toNat + c.toNat) / 18446744073709551616 : Nat) : Int)) else none
def sub64 (x y c : Int) : Option (Int × Int) := if c.toNat ≤ 1 then some ((((x.toNat + 18446744073709551616 - y.toNat - c.toNat) % 18446744073709551616 : Nat) : Int), ((if x.toNat < y.toNat + c.toNat then 1 else 0 : Nat) : Int)) else none
def extAdd : Array Value → Sem Value := (Extern.MathBitsCarry.rows.get ⟨0, by decide⟩).2
def extSub : Array Value → Sem Value := (Extern.MathBitsCarry.rows.get ⟨1, by decide⟩).2
theorem fn_add64 {P : Program} {f : FuncId} {fn : Func} (hf : P.funcs[f]? = some fn) (hn : (fn.name == "runtime.NumGoroutine") = false) (hb : fn.body.isNone = true) (h1 : Extern.findNext fn = none) (h2 : Extern.find fn = some extAdd) {x y c : Int} {r : Int × Int} (hr : add64 x y c = some r) : Fn P f [] [eI .u64 x, eI .u64 y, eI .u64 c] (.tup [eI .u64 r.1, eI .u64 r.2]) [] := by
  unfold add64 at hr
  split at hr
  · rename_i hc
    injection hr with hr
    subst hr
    refine fn_ext hf hn hb h1 h2 fun X M w vs hv => ?_
    unfold VCells at hv
    obtain ⟨v, rest, rfl, hv, hr⟩ := hv
    unfold VCells at hr
    obtain ⟨u, rest, rfl, hu, hr⟩ := hr
    unfold VCells at hr
    obtain ⟨z, rest, rfl, hz, hr⟩ := hr
    unfold VCells at hr
    subst hr
    unfold VR at hv hu hz
    subst hv hu hz
    have hgt : ¬ c.toNat > 1 := by omega
    refine ⟨.tuple #[.int .u64 (((x.toNat + y.toNat + c.toNat) % 18446744073709551616 : Nat) : Int), .int .u64 (((x.toNat + y.toNat + c.toNat) / 18446744073709551616 : Nat) : Int)], ?_, ?_⟩
    · match c, hgt with
      | .ofNat 0, _ => rfl
      | .ofNat 1, _ => rfl
      | .ofNat (k + 2), hgt => exact absurd (show (Int.ofNat (k + 2)).toNat > 1 by simp; omega) hgt
      | .negSucc k, _ => rfl
    · unfold VR
      exact ⟨_, rfl, by unfold VCells; exact ⟨_, _, rfl, by unfold VR; rfl, by unfold VCells; exact ⟨_, _, rfl, by unfold VR; rfl, by unfold VCells; rfl⟩⟩⟩
  · cases hr
theorem fn_sub64 {P : Program} {f : FuncId} {fn : Func} (hf : P.funcs[f]? = some fn) (hn : (fn.name == "runtime.NumGoroutine") = false) (hb : fn.body.isNone = true) (h1 : Extern.findNext fn = none) (h2 : Extern.find fn = some extSub) {x y c : Int} {r : Int × Int} (hr : sub64 x y c = some r) : Fn P f [] [eI .u64 x, eI .u64 y, eI .u64 c] (.tup [eI .u64 r.1, eI .u64 r.2]) [] := by
  unfold sub64 at hr
  split at hr
  · rename_i hc
    injection hr with hr
    subst hr
    refine fn_ext hf hn hb h1 h2 fun X M w vs hv => ?_
    unfold VCells at hv
    obtain ⟨v, rest, rfl, hv, hr⟩ := hv
    unfold VCells at hr
    obtain ⟨u, rest, rfl, hu, hr⟩ := hr
    unfold VCells at hr
    obtain ⟨z, rest, rfl, hz, hr⟩ := hr
    unfold VCells at hr
    subst hr
    unfold VR at hv hu hz
    subst hv hu hz
    have hgt : ¬ c.toNat > 1 := by omega
    refine ⟨.tuple #[.int .u64 (((x.toNat + 18446744073709551616 - y.toNat - c.toNat) % 18446744073709551616 : Nat) : Int), .int .u64 ((if x.toNat < y.toNat + c.toNat then 1 else 0 : Nat) : Int)], ?_, ?_⟩
    · match c, hgt with
      | .ofNat 0, _ => rfl
      | .ofNat 1, _ => rfl
      | .ofNat (k + 2), hgt => exact absurd (show (Int.ofNat (k + 2)).toNat > 1 by simp; omega) hgt
      | .negSucc k, _ => rfl
    · unfold VR
      exact ⟨_, rfl, by unfold VCells; exact ⟨_, _, rfl, by unfold VR; rfl, by unfold VCells; exact ⟨_, _, rfl, by unfold VR; rfl, by unfold VCells; rfl⟩⟩⟩
  · cases hr
end Go.Vm
set_option linter.unusedVariables false
set_option linter.unusedSimpArgs false
namespace Go.Proofs.YtokmcbfnfmpemaaDoor
open Go Go.Vm
structure S_api_Op where
  Code : Int
  Data : List Int
  M : Int
  N : Int
abbrev C_api_Op (x : S_api_Op) : List V := [(eI .i64 x.Code), (.row none 1 (x.Data.map (eI .u8))), (eI .i64 x.M), (eI .i64 x.N)]
abbrev E_api_Op (x : S_api_Op) : V := .agg (C_api_Op x)
@[simp] theorem rns_C_api_Op {f : Nat → Nat} (l : List S_api_Op) : V.rns f (l.flatMap C_api_Op) = l.flatMap C_api_Op := rns_flat (fun _ => rfl) l
@[simp] theorem rns_K_api_Op {f : Nat → Nat} (x : S_api_Op) : V.rns f (C_api_Op x) = C_api_Op x := rfl
structure S_script_branch where
  outer : Bool
  taken : Bool
abbrev C_script_branch (x : S_script_branch) : List V := [(eB x.outer), (eB x.taken)]
abbrev E_script_branch (x : S_script_branch) : V := .agg (C_script_branch x)
@[simp] theorem rns_C_script_branch {f : Nat → Nat} (l : List S_script_branch) : V.rns f (l.flatMap C_script_branch) = l.flatMap C_script_branch := rns_flat (fun _ => rfl) l
@[simp] theorem rns_K_script_branch {f : Nat → Nat} (x : S_script_branch) : V.rns f (C_script_branch x) = C_script_branch x := rfl
def script_known_J1 (N : Nat) (x2 : Bool) : Option Bool :=
  some x2
def script_known (N : Nat) (code : Int) : Option Bool :=
  if decide (1 ≤ code) then
    script_known_J1 N (decide (code ≤ 17))
  else
    script_known_J1 N false
def script_row_J1 (N : Nat) (l0 : List Int) : Option (List Int) :=
  some l0
def script_row_L2 (N : Nat) (parts : List (List Int)) : Nat → Int → (List Int) → Option (List Int)
  | 0, _, _ => none
  | m + 1, x8, l0_1 =>
    if decide (x8 < (parts.length : Int)) then
      (idx parts x8).bind fun x10 =>
      (app 1 l0_1 x10).bind fun x14 =>
      (script_row_L2 N parts m) (IntKind.i64.wrap (x8 + 1)) x14
    else
      some l0_1
def script_row (N : Nat) (parts : List (List Int)) : Option (List Int) :=
  (script_row_L2 N parts N 0 []).bind fun p2 =>
  script_row_J1 N p2
def script_inRange_J1 (N : Nat) (x4 : Bool) : Option Bool :=
  some x4
def script_inRange (N : Nat) (vm : Int) (vn : Int) : Option Bool :=
  if decide (1 ≤ vn) then
    if decide (vn ≤ 15) then
      if decide (1 ≤ vm) then
        script_inRange_J1 N (decide (vm ≤ vn))
      else
        script_inRange_J1 N false
    else
      script_inRange_J1 N false
  else
    script_inRange_J1 N false
def script_next_J1 (N : Nat) (x8 : Int) (b_1 : List Int) (c1 : Int) (c1_1 : Int) (l2 : List Int) : Option (Int × (List Int) × Int × Int × (List Int) × Int) :=
  some (IntKind.i64.wrap x8, l2, c1, c1_1, b_1, 0)
def script_next_J2 (N : Nat) (x8 : Int) (x18 : List Int) (x35 : Bool) : Option (Int × (List Int) × Int × Int × (List Int) × Int) :=
  if x35 then
    some (0, [], 0, 0, [], 1)
  else
    (idx x18 0).bind fun x38 =>
    (sub x18 1 (IntKind.i64.wrap (1 + (IntKind.i64.wrap x38)))).bind fun x44 =>
    (script_row N [x44]).bind fun x46 =>
    (sub x18 (IntKind.i64.wrap (1 + (IntKind.i64.wrap x38))) (x18.length : Int)).bind fun x49 =>
    script_next_J1 N x8 x49 0 0 x46
def script_next_J3 (N : Nat) (x8 : Int) (b_2 : List Int) (c1_2 : Int) (c1_3 : Int) : Option (Int × (List Int) × Int × Int × (List Int) × Int) :=
  (script_inRange N c1_2 c1_3).bind fun x73 =>
  if !x73 then
    some (0, [], 0, 0, [], 5)
  else
    script_next_J1 N x8 b_2 c1_2 c1_3 []
def script_next (N : Nat) (b : List Int) : Option (Int × (List Int) × Int × Int × (List Int) × Int) :=
  (idx b 0).bind fun x8 =>
  (script_known N (IntKind.i64.wrap x8)).bind fun x14 =>
  if !x14 then
    some (0, [], 0, 0, [], 80)
  else
    (sub b 1 (b.length : Int)).bind fun x18 =>
    if (IntKind.i64.wrap x8) == 1 then
      if (x18.length : Int) == 0 then
        script_next_J2 N x8 x18 true
      else
        (idx x18 0).bind fun x31 =>
        script_next_J2 N x8 x18 (decide ((IntKind.i64.wrap ((x18.length : Int) - 1)) < (IntKind.i64.wrap x31)))
    else
      if (IntKind.i64.wrap x8) == 11 then
        if decide ((x18.length : Int) < 2) then
          some (0, [], 0, 0, [], 1)
        else
          (idx x18 0).bind fun x58 =>
          (idx x18 1).bind fun x62 =>
          (sub x18 2 (x18.length : Int)).bind fun x66 =>
          script_next_J3 N x8 x66 (IntKind.i64.wrap x58) (IntKind.i64.wrap x62)
      else
        script_next_J1 N x8 x18 0 0 []
def script_Parse_J1 (N : Nat) (l0 : List S_api_Op) : Option ((List S_api_Op) × Int) :=
  some (l0, 0)
def script_Parse_L2 (N : Nat) : Nat → (List Int) → (List S_api_Op) → Option (LR ((List S_api_Op)) ((List S_api_Op) × Int))
  | 0, _, _ => none
  | m + 1, b_1, l0_1 =>
    if decide (0 < (b_1.length : Int)) then
      (script_next N b_1).bind fun x16 =>
      if x16.2.2.2.2.2 != 0 then
        some (.ret ([], x16.2.2.2.2.2))
      else
        (app 48 l0_1 [(S_api_Op.mk x16.1 x16.2.1 x16.2.2.1 x16.2.2.2.1)]).bind fun x26 =>
        (script_Parse_L2 N m) x16.2.2.2.2.1 x26
    else
      some (.brk l0_1)
def script_Parse (N : Nat) (b : List Int) : Option ((List S_api_Op) × Int) :=
  if decide (520 < (b.length : Int)) then
    some ([], 4)
  else
    (script_Parse_L2 N N b []).bind fun q => match q with
      | .ret v => some v
      | .brk p2 =>
        script_Parse_J1 N p2
def script_nested_J1 (N : Nat) (l0 : List Bool) : Option Bool :=
  some ((l0.length : Int) == 0)
def script_nested_J3 (N : Nat) (l : List S_api_Op) (x9 : Int) (rec : Int → (List Bool) → Option (LR ((List Bool)) (Bool))) (l0_2 : List Bool) : Option (LR ((List Bool)) (Bool)) :=
  rec (IntKind.i64.wrap (x9 + 1)) l0_2
def script_nested_J4 (N : Nat) (l : List S_api_Op) (x9 : Int) (l0_1 : List Bool) (rec : Int → (List Bool) → Option (LR ((List Bool)) (Bool))) (x32 : Bool) : Option (LR ((List Bool)) (Bool)) :=
  if x32 then
    some (.ret false)
  else
    (idx l0_1 (IntKind.i64.wrap ((l0_1.length : Int) - 1))).bind fun x35 =>
    script_nested_J3 N l x9 rec (l0_1.set (Int.toNat (IntKind.i64.wrap ((l0_1.length : Int) - 1))) true)
def script_nested_L2 (N : Nat) (l : List S_api_Op) : Nat → Int → (List Bool) → Option (LR ((List Bool)) (Bool))
  | 0, _, _ => none
  | m + 1, x9, l0_1 =>
    if decide (x9 < (l.length : Int)) then
      (idx l x9).bind fun x11 =>
      if x11.Code == 14 then
        (app 1 l0_1 [false]).bind fun x22 =>
        script_nested_J3 N l x9 (script_nested_L2 N l m) x22
      else
        if x11.Code == 15 then
          if decide ((IntKind.i64.wrap ((l0_1.length : Int) - 1)) < 0) then
            script_nested_J4 N l x9 l0_1 (script_nested_L2 N l m) true
          else
            (idx l0_1 (IntKind.i64.wrap ((l0_1.length : Int) - 1))).bind fun x30 =>
            script_nested_J4 N l x9 l0_1 (script_nested_L2 N l m) x30
        else
          if x11.Code == 16 then
            if decide ((IntKind.i64.wrap ((l0_1.length : Int) - 1)) < 0) then
              some (.ret false)
            else
              (sub l0_1 0 (IntKind.i64.wrap ((l0_1.length : Int) - 1))).bind fun x42 =>
              script_nested_J3 N l x9 (script_nested_L2 N l m) x42
          else
            script_nested_J3 N l x9 (script_nested_L2 N l m) l0_1
    else
      some (.brk l0_1)
def script_nested (N : Nat) (l : List S_api_Op) : Option Bool :=
  (script_nested_L2 N l N 0 []).bind fun q => match q with
    | .ret v => some v
    | .brk p2 =>
      script_nested_J1 N p2
def script_bounded_J1 (N : Nat) : Option Bool :=
  some true
def script_bounded_L2 (N : Nat) (stack : List (List Int)) : Nat → Int → Option (LR (Unit) (Bool))
  | 0, _ => none
  | m + 1, x10 =>
    if decide (x10 < (stack.length : Int)) then
      (idx stack x10).bind fun x12 =>
      if decide (520 < (x12.length : Int)) then
        some (.ret false)
      else
        (script_bounded_L2 N stack m) (IntKind.i64.wrap (x10 + 1))
    else
      some (.brk ())
def script_bounded (N : Nat) (stack : List (List Int)) : Option Bool :=
  if decide (64 < (stack.length : Int)) then
    some false
  else
    (script_bounded_L2 N stack N 0).bind fun q => match q with
      | .ret v => some v
      | .brk p2 =>
        script_bounded_J1 N
def script_copied_J1 (N : Nat) (l0 : List (List Int)) : Option (List (List Int)) :=
  some l0
def script_copied_L2 (N : Nat) (stack : List (List Int)) : Nat → Int → (List (List Int)) → Option (List (List Int))
  | 0, _, _ => none
  | m + 1, x8, l0_1 =>
    if decide (x8 < (stack.length : Int)) then
      (idx stack x8).bind fun x10 =>
      (script_row N [x10]).bind fun x15 =>
      (app 24 l0_1 [x15]).bind fun x17 =>
      (script_copied_L2 N stack m) (IntKind.i64.wrap (x8 + 1)) x17
    else
      some l0_1
def script_copied (N : Nat) (stack : List (List Int)) : Option (List (List Int)) :=
  (script_copied_L2 N stack N 0 []).bind fun p2 =>
  script_copied_J1 N p2
def script_machine_active_J1 (N : Nat) (m_Env_Message : List Int) (m_Env_Height : Int) (m_Env_Age : Int) (m_stack : List (List Int)) (m_branches : List S_script_branch) (m_cost : Int) (x2 : Bool) : Option Bool :=
  some x2
def script_machine_active (N : Nat) (m_Env_Message : List Int) (m_Env_Height : Int) (m_Env_Age : Int) (m_stack : List (List Int)) (m_branches : List S_script_branch) (m_cost : Int) : Option Bool :=
  if (m_branches.length : Int) == 0 then
    some true
  else
    (idx m_branches (IntKind.i64.wrap ((m_branches.length : Int) - 1))).bind fun x20 =>
    if x20.outer then
      script_machine_active_J1 N m_Env_Message m_Env_Height m_Env_Age m_stack m_branches m_cost x20.taken
    else
      script_machine_active_J1 N m_Env_Message m_Env_Height m_Env_Age m_stack m_branches m_cost false
def script_price (N : Nat) (op_Code : Int) (op_Data : List Int) (op_M : Int) (op_N : Int) : Option Int :=
  if op_Code == 8 then
    some 6
  else
    if op_Code == 10 then
      some 21
    else
      if op_Code == 11 then
        some (IntKind.i64.wrap (1 + (IntKind.i64.wrap (20 * op_N))))
      else
        some 1
def script_needs_J2 (N : Nat) (op_Code : Int) (op_Data : List Int) (op_M : Int) (op_N : Int) (x10 : Bool) : Option Int :=
  if x10 then
    some 2
  else
    if op_Code == 11 then
      some (IntKind.i64.wrap (2 * op_N))
    else
      some 1
def script_needs_J1 (N : Nat) (op_Code : Int) (op_Data : List Int) (op_M : Int) (op_N : Int) (x5 : Bool) : Option Int :=
  if x5 then
    some 0
  else
    if op_Code == 4 then
      script_needs_J2 N op_Code op_Data op_M op_N (op_Code == 4)
    else
      if op_Code == 5 then
        script_needs_J2 N op_Code op_Data op_M op_N (op_Code == 5)
      else
        script_needs_J2 N op_Code op_Data op_M op_N (op_Code == 10)
def script_needs (N : Nat) (op_Code : Int) (op_Data : List Int) (op_M : Int) (op_N : Int) : Option Int :=
  if op_Code == 1 then
    script_needs_J1 N op_Code op_Data op_M op_N (op_Code == 1)
  else
    if op_Code == 15 then
      script_needs_J1 N op_Code op_Data op_M op_N (op_Code == 15)
    else
      if op_Code == 16 then
        script_needs_J1 N op_Code op_Data op_M op_N (op_Code == 16)
      else
        script_needs_J1 N op_Code op_Data op_M op_N (op_Code == 17)
def script_machine_top (N : Nat) (m_Env_Message : List Int) (m_Env_Height : Int) (m_Env_Age : Int) (m_stack : List (List Int)) (m_branches : List S_script_branch) (m_cost : Int) : Option (List Int) :=
  (idx m_stack (IntKind.i64.wrap ((m_stack.length : Int) - 1))).bind fun x13 =>
  some x13
def script_truth_J1 (N : Nat) : Option Bool :=
  some false
def script_truth_L2 (N : Nat) (item : List Int) : Nat → Int → Option (LR (Unit) (Bool))
  | 0, _ => none
  | m + 1, x7 =>
    if decide (x7 < (item.length : Int)) then
      (idx item x7).bind fun x9 =>
      if x9 != 0 then
        some (.ret true)
      else
        (script_truth_L2 N item m) (IntKind.i64.wrap (x7 + 1))
    else
      some (.brk ())
def script_truth (N : Nat) (item : List Int) : Option Bool :=
  (script_truth_L2 N item N 0).bind fun q => match q with
    | .ret v => some v
    | .brk p2 =>
      script_truth_J1 N
def script_machine_drop (N : Nat) (m_Env_Message : List Int) (m_Env_Height : Int) (m_Env_Age : Int) (m_stack : List (List Int)) (m_branches : List S_script_branch) (m_cost : Int) (vn : Int) : Option ((List Int) × Int × Int × (List (List Int)) × (List S_script_branch) × Int) :=
  (sub m_stack 0 (IntKind.i64.wrap ((m_stack.length : Int) - vn))).bind fun x16 =>
  some (m_Env_Message, m_Env_Height, m_Env_Age, x16, m_branches, m_cost)
def script_machine_push (N : Nat) (m_Env_Message : List Int) (m_Env_Height : Int) (m_Env_Age : Int) (m_stack : List (List Int)) (m_branches : List S_script_branch) (m_cost : Int) (item : List Int) : Option (Int × (List Int) × Int × Int × (List (List Int)) × (List S_script_branch) × Int) :=
  if decide (64 ≤ (m_stack.length : Int)) then
    some (4, m_Env_Message, m_Env_Height, m_Env_Age, m_stack, m_branches, m_cost)
  else
    (app 24 m_stack [item]).bind fun x18 =>
    some (0, m_Env_Message, m_Env_Height, m_Env_Age, x18, m_branches, m_cost)
def bytes_Equal (N : Nat) (va : List Int) (b : List Int) : Option Bool :=
  some ((strOf va).toList == (strOf b).toList)
def script_Item_J1 (N : Nat) (l0 : List Int) : Option (List Int) :=
  some l0
def script_Item_L2 (N : Nat) : Nat → Int → (List Int) → Option (List Int)
  | 0, _, _ => none
  | m + 1, vn_1, l0_1 =>
    if decide (0 < vn_1) then
      (app 1 l0_1 [IntKind.u8.wrap vn_1]).bind fun x12 =>
      (shr .u32 vn_1 8).bind fun x7 =>
      (script_Item_L2 N m) x7 x12
    else
      some l0_1
def script_Item (N : Nat) (vn : Int) : Option (List Int) :=
  (script_Item_L2 N N vn []).bind fun p2 =>
  script_Item_J1 N p2
def script_flag (N : Nat) (v : Bool) : Option (List Int) :=
  if v then
    (script_Item N 1).bind fun x4 =>
    some x4
  else
    (script_Item N 0).bind fun x5 =>
    some x5
def script_machine_replace (N : Nat) (m_Env_Message : List Int) (m_Env_Height : Int) (m_Env_Age : Int) (m_stack : List (List Int)) (m_branches : List S_script_branch) (m_cost : Int) (vn : Int) (item : List Int) : Option ((List Int) × Int × Int × (List (List Int)) × (List S_script_branch) × Int) :=
  (script_machine_drop N m_Env_Message m_Env_Height m_Env_Age m_stack m_branches m_cost vn).bind fun x8 =>
  (app 24 x8.2.2.2.1 [item]).bind fun x16 =>
  some (x8.1, x8.2.1, x8.2.2.1, x16, x8.2.2.2.2.1, x8.2.2.2.2.2)
def sha_Pad_J1 (N : Nat) (l0 : List Int) : Option (List Int) :=
  some l0
def sha_Pad_L2 (N : Nat) (vn : Int) : Nat → Int → (List Int) → Option (List Int)
  | 0, _, _ => none
  | m + 1, x18, l0_1 =>
    if decide (x18 < 8) then
      (shr .u64 (IntKind.u64.wrap (8 * vn)) (IntKind.i64.wrap (56 - (IntKind.i64.wrap (8 * x18))))).bind fun x27 =>
      (app 1 l0_1 [IntKind.u8.wrap x27]).bind fun x30 =>
      (sha_Pad_L2 N vn m) (IntKind.i64.wrap (x18 + 1)) x30
    else
      some l0_1
def sha_Pad (N : Nat) (vn : Int) : Option (List Int) :=
  (mkl 1 0 (IntKind.u64.wrap (1 + (Int.tmod (IntKind.u64.wrap (64 - (Int.tmod (IntKind.u64.wrap (vn + 9)) 64))) 64))) (IntKind.u64.wrap (9 + (Int.tmod (IntKind.u64.wrap (64 - (Int.tmod (IntKind.u64.wrap (vn + 9)) 64))) 64)))).bind fun x15 =>
  (idx x15 0).bind fun x17 =>
  (sha_Pad_L2 N vn N 0 (x15.set (Int.toNat 0) 128)).bind fun p2 =>
  sha_Pad_J1 N p2
def sha_row_J1 (N : Nat) (l0 : List Int) : Option (List Int) :=
  some l0
def sha_row_L2 (N : Nat) (parts : List (List Int)) : Nat → Int → (List Int) → Option (List Int)
  | 0, _, _ => none
  | m + 1, x8, l0_1 =>
    if decide (x8 < (parts.length : Int)) then
      (idx parts x8).bind fun x10 =>
      (app 1 l0_1 x10).bind fun x14 =>
      (sha_row_L2 N parts m) (IntKind.i64.wrap (x8 + 1)) x14
    else
      some l0_1
def sha_row (N : Nat) (parts : List (List Int)) : Option (List Int) :=
  (sha_row_L2 N parts N 0 []).bind fun p2 =>
  sha_row_J1 N p2
def math_bits_RotateLeft32 (N : Nat) (x : Int) (k : Int) : Option Int :=
  (shl .u32 x (bits .and .u64 (IntKind.u64.wrap k) 31)).bind fun x11 =>
  (shr .u32 x (IntKind.u64.wrap (32 - (bits .and .u64 (IntKind.u64.wrap k) 31)))).bind fun x15 =>
  some (bits .or .u32 x11 x15)
def sha_rotr (N : Nat) (x : Int) (vn : Int) : Option Int :=
  (math_bits_RotateLeft32 N x (IntKind.i64.wrap (0 - vn))).bind fun x8 =>
  some x8
def sha_schedule_J2 (N : Nat) (l1_1 : List Int) : Option (List Int) :=
  (arr 64 l1_1).bind fun q =>
  some l1_1
def sha_schedule_L3 (N : Nat) : Nat → Int → (List Int) → Option (List Int)
  | 0, _, _ => none
  | m + 1, vi, l1_2 =>
    if decide (vi < 64) then
      (aix 64 l1_2 (IntKind.i64.wrap (vi - 15))).bind fun x37 =>
      (sha_rotr N x37 7).bind fun x39 =>
      (sha_rotr N x37 18).bind fun x44 =>
      (shr .u32 x37 3).bind fun x50 =>
      (aix 64 l1_2 (IntKind.i64.wrap (vi - 2))).bind fun x54 =>
      (sha_rotr N x54 17).bind fun x56 =>
      (sha_rotr N x54 19).bind fun x61 =>
      (shr .u32 x54 10).bind fun x67 =>
      (aix 64 l1_2 (IntKind.i64.wrap (vi - 16))).bind fun x72 =>
      (aix 64 l1_2 (IntKind.i64.wrap (vi - 7))).bind fun x78 =>
      (aix 64 l1_2 vi).bind fun x83 =>
      (sha_schedule_L3 N m) (IntKind.i64.wrap (vi + 1)) (l1_2.set (Int.toNat vi) (IntKind.u32.wrap ((IntKind.u32.wrap ((IntKind.u32.wrap (x72 + (bits .xor .u32 (bits .xor .u32 x39 x44) x50))) + x78)) + (bits .xor .u32 (bits .xor .u32 x56 x61) x67))))
    else
      some l1_2
def sha_schedule_J1 (N : Nat) (l1 : List Int) : Option (List Int) :=
  (sha_schedule_L3 N N 16 l1).bind fun p3 =>
  sha_schedule_J2 N p3
def sha_schedule_J5 (N : Nat) (block : List Int) (x9 : Int) (rec : Int → (List Int) → Option (List Int)) (l2_1 : List Int) : Option (List Int) :=
  rec (IntKind.i64.wrap (x9 + 1)) l2_1
def sha_schedule_L6 (N : Nat) (block : List Int) (x9 : Int) : Nat → Int → (List Int) → Option (List Int)
  | 0, _, _ => none
  | m + 1, x12, l2_2 =>
    if decide (x12 < 4) then
      (aix 64 l2_2 x9).bind fun x17 =>
      (shl .u32 x17 8).bind fun x19 =>
      (aix 64 block (IntKind.i64.wrap ((IntKind.i64.wrap (4 * x9)) + x12))).bind fun x24 =>
      (sha_schedule_L6 N block x9 m) (IntKind.i64.wrap (x12 + 1)) (l2_2.set (Int.toNat x9) (bits .or .u32 x19 (IntKind.u32.wrap x24)))
    else
      some l2_2
def sha_schedule_L4 (N : Nat) (block : List Int) : Nat → Int → (List Int) → Option (List Int)
  | 0, _, _ => none
  | m + 1, x9, l2 =>
    if decide (x9 < 16) then
      (sha_schedule_L6 N block x9 N 0 l2).bind fun p6 =>
      sha_schedule_J5 N block x9 (sha_schedule_L4 N block m) p6
    else
      some l2
def sha_schedule (N : Nat) (block : List Int) : Option (List Int) :=
  (sha_schedule_L4 N block N 0 (List.replicate 64 0)).bind fun p4 =>
  sha_schedule_J1 N p4
def sha_Compress_J1 (N : Nat) (state : List Int) (va : Int) (b : Int) (c : Int) (d : Int) (ve : Int) (f : Int) (g : Int) (vh : Int) : Option (List Int) :=
  (aix 8 state 0).bind fun x98 =>
  (aix 8 state 1).bind fun x102 =>
  (aix 8 state 2).bind fun x106 =>
  (aix 8 state 3).bind fun x110 =>
  (aix 8 state 4).bind fun x114 =>
  (aix 8 state 5).bind fun x118 =>
  (aix 8 state 6).bind fun x122 =>
  (aix 8 state 7).bind fun x126 =>
  some [IntKind.u32.wrap (x98 + va), IntKind.u32.wrap (x102 + b), IntKind.u32.wrap (x106 + c), IntKind.u32.wrap (x110 + d), IntKind.u32.wrap (x114 + ve), IntKind.u32.wrap (x118 + f), IntKind.u32.wrap (x122 + g), IntKind.u32.wrap (x126 + vh)]
def sha_Compress_L2 (N : Nat) (state : List Int) (x18 : (List Int)) : Nat → Int → Int → Int → Int → Int → Int → Int → Int → Int → Option (Int × Int × Int × Int × Int × Int × Int × Int)
  | 0, _, _, _, _, _, _, _, _, _ => none
  | m + 1, va_1, b_1, c_1, d_1, ve_1, f_1, g_1, vh_1, x35 =>
    if decide (x35 < 64) then
      (sha_rotr N ve_1 6).bind fun x40 =>
      (sha_rotr N ve_1 11).bind fun x42 =>
      (sha_rotr N ve_1 25).bind fun x45 =>
      (aix 64 shaK x35).bind fun x58 =>
      (aix 64 x18 x35).bind fun x62 =>
      (sha_rotr N va_1 2).bind fun x66 =>
      (sha_rotr N va_1 13).bind fun x68 =>
      (sha_rotr N va_1 22).bind fun x71 =>
      (sha_Compress_L2 N state x18 m) (IntKind.u32.wrap ((IntKind.u32.wrap ((IntKind.u32.wrap ((IntKind.u32.wrap ((IntKind.u32.wrap (vh_1 + (bits .xor .u32 (bits .xor .u32 x40 x42) x45))) + (bits .xor .u32 (bits .and .u32 ve_1 f_1) (bits .and .u32 (bits .xor .u32 (IntKind.max .u32) ve_1) g_1)))) + x58)) + x62)) + (IntKind.u32.wrap ((bits .xor .u32 (bits .xor .u32 x66 x68) x71) + (bits .xor .u32 (bits .xor .u32 (bits .and .u32 va_1 b_1) (bits .and .u32 va_1 c_1)) (bits .and .u32 b_1 c_1)))))) va_1 b_1 c_1 (IntKind.u32.wrap (d_1 + (IntKind.u32.wrap ((IntKind.u32.wrap ((IntKind.u32.wrap ((IntKind.u32.wrap (vh_1 + (bits .xor .u32 (bits .xor .u32 x40 x42) x45))) + (bits .xor .u32 (bits .and .u32 ve_1 f_1) (bits .and .u32 (bits .xor .u32 (IntKind.max .u32) ve_1) g_1)))) + x58)) + x62)))) ve_1 f_1 g_1 (IntKind.i64.wrap (x35 + 1))
    else
      some (va_1, b_1, c_1, d_1, ve_1, f_1, g_1, vh_1)
def sha_Compress (N : Nat) (state : List Int) (block : List Int) : Option (List Int) :=
  (arr 64 block).bind fun q =>
  (sha_schedule N block).bind fun x18 =>
  (arr 64 x18).bind fun q_1 =>
  (aix 8 state 0).bind fun x19 =>
  (aix 8 state 1).bind fun x21 =>
  (aix 8 state 2).bind fun x23 =>
  (aix 8 state 3).bind fun x25 =>
  (aix 8 state 4).bind fun x27 =>
  (aix 8 state 5).bind fun x29 =>
  (aix 8 state 6).bind fun x31 =>
  (aix 8 state 7).bind fun x33 =>
  (sha_Compress_L2 N state x18 N x19 x21 x23 x25 x27 x29 x31 x33 0).bind fun p2 =>
  sha_Compress_J1 N state p2.1 p2.2.1 p2.2.2.1 p2.2.2.2.1 p2.2.2.2.2.1 p2.2.2.2.2.2.1 p2.2.2.2.2.2.2.1 p2.2.2.2.2.2.2.2
def sha_Sum_J2 (N : Nat) (l1_1 : List Int) : Option (List Int) :=
  (arr 32 l1_1).bind fun q =>
  some l1_1
def sha_Sum_L3 (N : Nat) (l1 : List Int) : Nat → Int → (List Int) → Option (List Int)
  | 0, _, _ => none
  | m + 1, x31, l2 =>
    if decide (x31 < 32) then
      (aix 8 l1 (IntKind.i64.wrap (Int.tdiv x31 4))).bind fun x37 =>
      (shr .u32 x37 (IntKind.i64.wrap (24 - (IntKind.i64.wrap ((Int.tmod x31 4) * 8))))).bind fun x43 =>
      (aix 32 l2 x31).bind fun x45 =>
      (sha_Sum_L3 N l1 m) (IntKind.i64.wrap (x31 + 1)) (l2.set (Int.toNat x31) (IntKind.u8.wrap x43))
    else
      some l2
def sha_Sum_J1 (N : Nat) (l1 : List Int) : Option (List Int) :=
  (sha_Sum_L3 N l1 N 0 (List.replicate 32 0)).bind fun p3 =>
  sha_Sum_J2 N p3
def sha_Sum_L4 (N : Nat) (x14 : (List Int)) : Nat → Int → (List Int) → Option (List Int)
  | 0, _, _ => none
  | m + 1, x19, l1_2 =>
    if decide (x19 < (IntKind.i64.wrap (Int.tdiv (x14.length : Int) 64))) then
      (arr 8 l1_2).bind fun q_1 =>
      (sub x14 (IntKind.i64.wrap (64 * x19)) (x14.length : Int)).bind fun x26 =>
      (arp 64 x26).bind fun x27 =>
      (sha_Compress N l1_2 x27).bind fun x29 =>
      (arr 8 x29).bind fun q_2 =>
      (sha_Sum_L4 N x14 m) (IntKind.i64.wrap (x19 + 1)) x29
    else
      some l1_2
def sha_Sum (N : Nat) (b : List Int) : Option (List Int) :=
  (sha_Pad N (IntKind.u64.wrap (b.length : Int))).bind fun x12 =>
  (sha_row N [b, x12]).bind fun x14 =>
  (sha_Sum_L4 N x14 N 0 shaI).bind fun p4 =>
  sha_Sum_J1 N p4
def wide_FromBytes_J1 (N : Nat) (l1 : List Int) : Option (List Int) :=
  (arr 4 l1).bind fun q =>
  some l1
def wide_FromBytes_L2 (N : Nat) (vh : List Int) : Nat → Int → (List Int) → Option (List Int)
  | 0, _, _ => none
  | m + 1, x8, l1_1 =>
    if decide (x8 < 32) then
      (aix 32 vh x8).bind fun x11 =>
      (aix 4 l1_1 (IntKind.i64.wrap (3 - (IntKind.i64.wrap (Int.tdiv x8 8))))).bind fun x17 =>
      (shl .u64 x17 8).bind fun x19 =>
      (wide_FromBytes_L2 N vh m) (IntKind.i64.wrap (x8 + 1)) (l1_1.set (Int.toNat (IntKind.i64.wrap (3 - (IntKind.i64.wrap (Int.tdiv x8 8))))) (bits .or .u64 x19 (IntKind.u64.wrap x11)))
    else
      some l1_1
def wide_FromBytes (N : Nat) (vh : List Int) : Option (List Int) :=
  (arr 32 vh).bind fun q_1 =>
  (wide_FromBytes_L2 N vh N 0 (List.replicate 4 0)).bind fun p2 =>
  wide_FromBytes_J1 N p2
def wide_FromUint (N : Nat) (vn : Int) : Option (List Int) :=
  some [vn, 0, 0, 0]
def group_Modulus (N : Nat) : Option (List Int) :=
  some [18446744073709515503, 18446744073709551615, 18446744073709551615, 18446744073709551615]
def wide_Cmp_J1 (N : Nat) : Option Int :=
  some 0
def wide_Cmp_L2 (N : Nat) (va : List Int) (b : List Int) : Nat → Int → Option (LR (Unit) (Int))
  | 0, _ => none
  | m + 1, vi =>
    if decide (0 ≤ vi) then
      (aix 4 va vi).bind fun x11 =>
      (aix 4 b vi).bind fun x14 =>
      if decide (x11 < x14) then
        some (.ret (-1))
      else
        if decide (x14 < x11) then
          some (.ret 1)
        else
          (wide_Cmp_L2 N va b m) (IntKind.i64.wrap (vi - 1))
    else
      some (.brk ())
def wide_Cmp (N : Nat) (va : List Int) (b : List Int) : Option Int :=
  (wide_Cmp_L2 N va b N 3).bind fun q => match q with
    | .ret v => some v
    | .brk p2 =>
      wide_Cmp_J1 N
def group_Order (N : Nat) : Option (List Int) :=
  some [18446744073709533559, 18446744073709551615, 18446744073709551615, 9223372036854775807]
def math_bits_Len64_J3 (N : Nat) (x_3 : Int) (vn_2 : Int) : Option Int :=
  (sidx (⟨#[0, 1, 2, 2, 3, 3, 3, 3, 4, 4, 4, 4, 4, 4, 4, 4, 5, 5, 5, 5, 5, 5, 5, 5, 5, 5, 5, 5, 5, 5, 5, 5, 6, 6, 6, 6, 6, 6, 6, 6, 6, 6, 6, 6, 6, 6, 6, 6, 6, 6, 6, 6, 6, 6, 6, 6, 6, 6, 6, 6, 6, 6, 6, 6, 7, 7, 7, 7, 7, 7, 7, 7, 7, 7, 7, 7, 7, 7, 7, 7, 7, 7, 7, 7, 7, 7, 7, 7, 7, 7, 7, 7, 7, 7, 7, 7, 7, 7, 7, 7, 7, 7, 7, 7, 7, 7, 7, 7, 7, 7, 7, 7, 7, 7, 7, 7, 7, 7, 7, 7, 7, 7, 7, 7, 7, 7, 7, 7, 8, 8, 8, 8, 8, 8, 8, 8, 8, 8, 8, 8, 8, 8, 8, 8, 8, 8, 8, 8, 8, 8, 8, 8, 8, 8, 8, 8, 8, 8, 8, 8, 8, 8, 8, 8, 8, 8, 8, 8, 8, 8, 8, 8, 8, 8, 8, 8, 8, 8, 8, 8, 8, 8, 8, 8, 8, 8, 8, 8, 8, 8, 8, 8, 8, 8, 8, 8, 8, 8, 8, 8, 8, 8, 8, 8, 8, 8, 8, 8, 8, 8, 8, 8, 8, 8, 8, 8, 8, 8, 8, 8, 8, 8, 8, 8, 8, 8, 8, 8, 8, 8, 8, 8, 8, 8, 8, 8, 8, 8, 8, 8, 8, 8, 8, 8, 8, 8, 8, 8, 8, 8, 8, 8, 8, 8, 8, 8]⟩) (IntKind.u8.wrap x_3)).bind fun x22 =>
  some (IntKind.i64.wrap (vn_2 + (IntKind.i64.wrap x22)))
def math_bits_Len64_J2 (N : Nat) (x_2 : Int) (vn_1 : Int) : Option Int :=
  if decide (256 ≤ x_2) then
    (shr .u64 x_2 8).bind fun x16 =>
    math_bits_Len64_J3 N x16 (IntKind.i64.wrap (vn_1 + 8))
  else
    math_bits_Len64_J3 N x_2 vn_1
def math_bits_Len64_J1 (N : Nat) (x_1 : Int) (vn : Int) : Option Int :=
  if decide (65536 ≤ x_1) then
    (shr .u64 x_1 16).bind fun x10 =>
    math_bits_Len64_J2 N x10 (IntKind.i64.wrap (vn + 16))
  else
    math_bits_Len64_J2 N x_1 vn
def math_bits_Len64 (N : Nat) (x : Int) : Option Int :=
  if decide (4294967296 ≤ x) then
    (shr .u64 x 32).bind fun x6 =>
    math_bits_Len64_J1 N x6 32
  else
    math_bits_Len64_J1 N x 0
def wide_Len_J1 (N : Nat) : Option Int :=
  some 0
def wide_Len_L2 (N : Nat) (va : List Int) : Nat → Int → Option (LR (Unit) (Int))
  | 0, _ => none
  | m + 1, vi =>
    if decide (0 ≤ vi) then
      (aix 4 va vi).bind fun x9 =>
      if x9 != 0 then
        (math_bits_Len64 N x9).bind fun x17 =>
        some (.ret (IntKind.i64.wrap ((IntKind.i64.wrap (64 * vi)) + x17)))
      else
        (wide_Len_L2 N va m) (IntKind.i64.wrap (vi - 1))
    else
      some (.brk ())
def wide_Len (N : Nat) (va : List Int) : Option Int :=
  (wide_Len_L2 N va N 3).bind fun q => match q with
    | .ret v => some v
    | .brk p2 =>
      wide_Len_J1 N
def math_bits_Mul64 (N : Nat) (x : Int) (y : Int) : Option (Int × Int) :=
  (shr .u64 x 32).bind fun x17 =>
  (shr .u64 y 32).bind fun x21 =>
  (shr .u64 (IntKind.u64.wrap ((bits .and .u64 x 4294967295) * (bits .and .u64 y 4294967295))) 32).bind fun x29 =>
  (shr .u64 (IntKind.u64.wrap ((IntKind.u64.wrap (x17 * (bits .and .u64 y 4294967295))) + x29)) 32).bind fun x34 =>
  (shr .u64 (IntKind.u64.wrap ((bits .and .u64 (IntKind.u64.wrap ((IntKind.u64.wrap (x17 * (bits .and .u64 y 4294967295))) + x29)) 4294967295) + (IntKind.u64.wrap ((bits .and .u64 x 4294967295) * x21)))) 32).bind fun x46 =>
  some (IntKind.u64.wrap ((IntKind.u64.wrap ((IntKind.u64.wrap (x17 * x21)) + x34)) + x46), IntKind.u64.wrap (x * y))
def math_bits_Add64 (N : Nat) (x y c : Int) : Option (Int × Int) := add64 x y c
def wide_Mul_J2 (N : Nat) (l0 : List Int) (l1 : List Int) : Option ((List Int) × (List Int)) :=
  (arr 4 l1).bind fun q_1 =>
  (arr 4 l0).bind fun q =>
  some (l0, l1)
def wide_Mul_J1 (N : Nat) (l2 : List Int) : Option ((List Int) × (List Int)) :=
  (arr 8 l2).bind fun q_2 =>
  (subs l2 4 8).bind fun x63 =>
  (arp 4 x63).bind fun x64 =>
  (subs l2 0 4).bind fun x66 =>
  (arp 4 x66).bind fun x67 =>
  wide_Mul_J2 N x64 x67
def wide_Mul_J4 (N : Nat) (va : List Int) (b : List Int) (x14 : Int) (rec : Int → (List Int) → Option (List Int)) (l4_1 : List Int) : Option (List Int) :=
  rec (IntKind.i64.wrap (x14 + 1)) l4_1
def wide_Mul_J5 (N : Nat) (va : List Int) (b : List Int) (x14 : Int) (rec : Int → (List Int) → Option (List Int)) (carry : Int) (l4_2 : List Int) : Option (List Int) :=
  (aix 8 l4_2 (IntKind.i64.wrap (x14 + 4))).bind fun x61 =>
  wide_Mul_J4 N va b x14 rec (l4_2.set (Int.toNat (IntKind.i64.wrap (x14 + 4))) carry)
def wide_Mul_L6 (N : Nat) (va : List Int) (b : List Int) (x14 : Int) : Nat → Int → Int → (List Int) → Option (Int × (List Int))
  | 0, _, _, _ => none
  | m + 1, carry_1, x17, l4_3 =>
    if decide (x17 < 4) then
      (aix 4 va x14).bind fun x22 =>
      (aix 4 b x17).bind fun x25 =>
      (math_bits_Mul64 N x22 x25).bind fun x27 =>
      (aix 8 l4_3 (IntKind.i64.wrap (x14 + x17))).bind fun x35 =>
      (math_bits_Add64 N x27.2 x35 0).bind fun x37 =>
      (math_bits_Add64 N x37.1 carry_1 0).bind fun x46 =>
      (wide_Mul_L6 N va b x14 m) (IntKind.u64.wrap ((IntKind.u64.wrap (x27.1 + x37.2)) + x46.2)) (IntKind.i64.wrap (x17 + 1)) (l4_3.set (Int.toNat (IntKind.i64.wrap (x14 + x17))) x46.1)
    else
      some (carry_1, l4_3)
def wide_Mul_L3 (N : Nat) (va : List Int) (b : List Int) : Nat → Int → (List Int) → Option (List Int)
  | 0, _, _ => none
  | m + 1, x14, l4 =>
    if decide (x14 < 4) then
      (wide_Mul_L6 N va b x14 N 0 0 l4).bind fun p6 =>
      wide_Mul_J5 N va b x14 (wide_Mul_L3 N va b m) p6.1 p6.2
    else
      some l4
def wide_Mul (N : Nat) (va : List Int) (b : List Int) : Option ((List Int) × (List Int)) :=
  (wide_Mul_L3 N va b N 0 (List.replicate 8 0)).bind fun p3 =>
  wide_Mul_J1 N p3
def wide_double_J1 (N : Nat) (low_1 : Int) (l0 : List Int) : Option ((List Int) × Int) :=
  (arr 4 l0).bind fun q =>
  some (l0, low_1)
def wide_double_L2 (N : Nat) : Nat → Int → Int → (List Int) → Option (Int × (List Int))
  | 0, _, _, _ => none
  | m + 1, low_2, x7, l0_1 =>
    if decide (x7 < 4) then
      (aix 4 l0_1 x7).bind fun x12 =>
      (shl .u64 x12 1).bind fun x14 =>
      (shr .u64 x12 63).bind fun x20 =>
      (wide_double_L2 N m) x20 (IntKind.i64.wrap (x7 + 1)) (l0_1.set (Int.toNat x7) (bits .or .u64 x14 low_2))
    else
      some (low_2, l0_1)
def wide_double (N : Nat) (va : List Int) (low : Int) : Option ((List Int) × Int) :=
  (wide_double_L2 N N low 0 va).bind fun p2 =>
  wide_double_J1 N p2.1 p2.2
def math_bits_Sub64 (N : Nat) (x y c : Int) : Option (Int × Int) := sub64 x y c
def wide_Sub_J1 (N : Nat) (borrow : Int) (l1 : List Int) : Option ((List Int) × Bool) :=
  (arr 4 l1).bind fun q =>
  some (l1, borrow != 0)
def wide_Sub_L2 (N : Nat) (va : List Int) (b : List Int) : Nat → Int → Int → (List Int) → Option (Int × (List Int))
  | 0, _, _, _ => none
  | m + 1, borrow_1, x9, l3 =>
    if decide (x9 < 4) then
      (aix 4 va x9).bind fun x15 =>
      (aix 4 b x9).bind fun x18 =>
      (math_bits_Sub64 N x15 x18 borrow_1).bind fun x21 =>
      (aix 4 l3 x9).bind fun x24 =>
      (wide_Sub_L2 N va b m) x21.2 (IntKind.i64.wrap (x9 + 1)) (l3.set (Int.toNat x9) x21.1)
    else
      some (borrow_1, l3)
def wide_Sub (N : Nat) (va : List Int) (b : List Int) : Option ((List Int) × Bool) :=
  (wide_Sub_L2 N va b N 0 0 (List.replicate 4 0)).bind fun p2 =>
  wide_Sub_J1 N p2.1 p2.2
def wide_Div_J2 (N : Nat) (l0 : List Int) (l1 : List Int) : Option ((List Int) × (List Int) × Bool) :=
  (arr 4 l1).bind fun q_3 =>
  (arr 4 l0).bind fun q_2 =>
  some (l0, l1, true)
def wide_Div_J1 (N : Nat) (l0 : List Int) (l1 : List Int) : Option ((List Int) × (List Int) × Bool) :=
  (arr 4 l0).bind fun q_4 =>
  (arr 4 l1).bind fun q_5 =>
  wide_Div_J2 N l0 l1
def wide_Div_J4 (N : Nat) (b : List Int) (word : Int) (rec : Int → (List Int) → (List Int) → (List Int) → Option ((List Int) × (List Int))) (l0_2 : List Int) (l2_1 : List Int) (l3_1 : List Int) : Option ((List Int) × (List Int)) :=
  rec (IntKind.i64.wrap (word - 1)) l0_2 l2_1 l3_1
def wide_Div_J6 (N : Nat) (b : List Int) (word : Int) (bit : Int) (rec : Int → (List Int) → (List Int) → (List Int) → Option (LR ((List Int) × (List Int) × (List Int)) ((List Int) × (List Int)))) (l0_4 : List Int) (l2_3 : List Int) (l3_3 : List Int) : Option (LR ((List Int) × (List Int) × (List Int)) ((List Int) × (List Int))) :=
  rec (IntKind.i64.wrap (bit - 1)) l0_4 l2_3 l3_3
def wide_Div_J8 (N : Nat) (b : List Int) (word : Int) (bit : Int) (l2_2 : List Int) (x40 : (List Int) × Int) (x46 : (List Int) × Int) (rec : Int → (List Int) → (List Int) → (List Int) → Option (LR ((List Int) × (List Int) × (List Int)) ((List Int) × (List Int)))) (x56 : Bool) : Option (LR ((List Int) × (List Int) × (List Int)) ((List Int) × (List Int))) :=
  if x56 then
    (wide_Sub N x46.1 b).bind fun x60 =>
    (arr 4 x60.1).bind fun q_10 =>
    (aix 4 l2_2 word).bind fun x64 =>
    (shl .u64 1 bit).bind fun x67 =>
    wide_Div_J6 N b word bit rec x40.1 (l2_2.set (Int.toNat word) (bits .or .u64 x64 x67)) x60.1
  else
    wide_Div_J6 N b word bit rec x40.1 l2_2 x46.1
def wide_Div_J7 (N : Nat) (b : List Int) (word : Int) (bit : Int) (l0_3 : List Int) (l2_2 : List Int) (l3_2 : List Int) (rec : Int → (List Int) → (List Int) → (List Int) → Option (LR ((List Int) × (List Int) × (List Int)) ((List Int) × (List Int)))) (x37 : Bool) : Option (LR ((List Int) × (List Int) × (List Int)) ((List Int) × (List Int))) :=
  if x37 then
    some (.ret (l2_2, l3_2))
  else
    (arr 4 l0_3).bind fun q_6 =>
    (wide_double N l0_3 0).bind fun x40 =>
    (arr 4 x40.1).bind fun q_7 =>
    (arr 4 l3_2).bind fun q_8 =>
    (wide_double N l3_2 x40.2).bind fun x46 =>
    (arr 4 x46.1).bind fun q_9 =>
    if x46.2 != 0 then
      wide_Div_J8 N b word bit l2_2 x40 x46 rec true
    else
      (wide_Cmp N x46.1 b).bind fun x54 =>
      wide_Div_J8 N b word bit l2_2 x40 x46 rec (decide (0 ≤ x54))
def wide_Div_L5 (N : Nat) (b : List Int) (word : Int) : Nat → Int → (List Int) → (List Int) → (List Int) → Option (LR ((List Int) × (List Int) × (List Int)) ((List Int) × (List Int)))
  | 0, _, _, _, _ => none
  | m + 1, bit, l0_3, l2_2, l3_2 =>
    if decide (0 ≤ bit) then
      (arr 4 l3_2).bind fun q_11 =>
      if l3_2 == [0, 0, 0, 0] then
        (arr 4 l0_3).bind fun q_12 =>
        wide_Div_J7 N b word bit l0_3 l2_2 l3_2 (wide_Div_L5 N b word m) (l0_3 == [0, 0, 0, 0])
      else
        wide_Div_J7 N b word bit l0_3 l2_2 l3_2 (wide_Div_L5 N b word m) false
    else
      some (.brk (l0_3, l2_2, l3_2))
def wide_Div_L3 (N : Nat) (b : List Int) : Nat → Int → (List Int) → (List Int) → (List Int) → Option ((List Int) × (List Int))
  | 0, _, _, _, _ => none
  | m + 1, word, l0_1, l2, l3 =>
    if decide (0 ≤ word) then
      (wide_Div_L5 N b word N 63 l0_1 l2 l3).bind fun q => match q with
        | .ret p5_1 =>
          some (p5_1.1, p5_1.2)
        | .brk p5 =>
          wide_Div_J4 N b word (wide_Div_L3 N b m) p5.1 p5.2.1 p5.2.2
    else
      some (l2, l3)
def wide_Div (N : Nat) (hi : List Int) (lo : List Int) (b : List Int) : Option ((List Int) × (List Int) × Bool) :=
  (arr 4 b).bind fun q =>
  (arr 4 hi).bind fun q_1 =>
  (wide_Cmp N b hi).bind fun x16 =>
  if decide (x16 ≤ 0) then
    some ([0, 0, 0, 0], [0, 0, 0, 0], false)
  else
    (wide_Div_L3 N b N 3 lo (List.replicate 4 0) hi).bind fun p3 =>
    wide_Div_J1 N p3.1 p3.2
def wide_reduce (N : Nat) (va : List Int) (vm : List Int) : Option (List Int) :=
  (arr 4 va).bind fun q =>
  (arr 4 vm).bind fun q_1 =>
  (wide_Cmp N va vm).bind fun x10 =>
  if decide (x10 < 0) then
    some va
  else
    (wide_Div N [0, 0, 0, 0] va vm).bind fun x17 =>
    (arr 4 x17.1).bind fun q_2 =>
    (arr 4 x17.2.1).bind fun q_3 =>
    some x17.2.1
def wide_MulMod_J1 (N : Nat) (l1 : List Int) : Option (List Int) :=
  (arr 4 l1).bind fun q_5 =>
  some l1
def wide_MulMod (N : Nat) (va : List Int) (b : List Int) (vm : List Int) : Option (List Int) :=
  (arr 4 vm).bind fun q =>
  if vm == [0, 0, 0, 0] then
    some [0, 0, 0, 0]
  else
    (arr 4 va).bind fun q_1 =>
    (arr 4 b).bind fun q_2 =>
    (wide_Mul N va b).bind fun x19 =>
    (arr 4 x19.1).bind fun q_3 =>
    (arr 4 x19.2).bind fun q_4 =>
    (wide_reduce N x19.1 vm).bind fun x25 =>
    (wide_Div N x25 x19.2 vm).bind fun x28 =>
    (arr 4 x28.1).bind fun q_6 =>
    (arr 4 x28.2.1).bind fun q_7 =>
    wide_MulMod_J1 N x28.2.1
def group_Mul (N : Nat) (va : List Int) (b : List Int) : Option (List Int) :=
  (arr 4 va).bind fun q =>
  (arr 4 b).bind fun q_1 =>
  (group_Modulus N).bind fun x7 =>
  (wide_MulMod N va b x7).bind fun x8 =>
  (arr 4 x8).bind fun q_2 =>
  some x8
def group_Exp_J1 (N : Nat) (l1 : List Int) : Option (List Int) :=
  (arr 4 l1).bind fun q_2 =>
  some l1
def group_Exp_J3 (N : Nat) (va : List Int) (ve : List Int) (x11 : Int) (x13 : Int) (rec : Int → (List Int) → Option (List Int)) (l3_1 : List Int) : Option (List Int) :=
  rec (IntKind.i64.wrap (x13 + 1)) l3_1
def group_Exp_L2 (N : Nat) (va : List Int) (ve : List Int) (x11 : Int) : Nat → Int → (List Int) → Option (List Int)
  | 0, _, _ => none
  | m + 1, x13, l3 =>
    if decide (x13 < x11) then
      (arr 4 l3).bind fun q_3 =>
      (group_Mul N l3 l3).bind fun x22 =>
      (arr 4 x22).bind fun q_4 =>
      (aix 4 ve (IntKind.i64.wrap (Int.tdiv (IntKind.i64.wrap ((IntKind.i64.wrap (x11 - 1)) - x13)) 64))).bind fun x25 =>
      (shr .u64 x25 (Int.tmod (IntKind.i64.wrap ((IntKind.i64.wrap (x11 - 1)) - x13)) 64)).bind fun x29 =>
      if (bits .and .u64 x29 1) == 1 then
        (arr 4 va).bind fun q_5 =>
        (group_Mul N x22 va).bind fun x34 =>
        (arr 4 x34).bind fun q_6 =>
        group_Exp_J3 N va ve x11 x13 (group_Exp_L2 N va ve x11 m) x34
      else
        group_Exp_J3 N va ve x11 x13 (group_Exp_L2 N va ve x11 m) x22
    else
      some l3
def group_Exp (N : Nat) (va : List Int) (ve : List Int) : Option (List Int) :=
  (wide_FromUint N 1).bind fun x9 =>
  (arr 4 x9).bind fun q =>
  (arr 4 ve).bind fun q_1 =>
  (wide_Len N ve).bind fun x11 =>
  (group_Exp_L2 N va ve x11 N 0 x9).bind fun p2 =>
  group_Exp_J1 N p2
def group_Member_J1 (N : Nat) (va : List Int) (x11 : Bool) : Option Bool :=
  if x11 then
    some false
  else
    (arr 4 va).bind fun q =>
    (group_Order N).bind fun x13 =>
    (group_Exp N va x13).bind fun x14 =>
    (wide_FromUint N 1).bind fun x15 =>
    (arr 4 x14).bind fun q_1 =>
    (arr 4 x15).bind fun q_2 =>
    some (x14 == x15)
def group_Member (N : Nat) (va : List Int) : Option Bool :=
  (arr 4 va).bind fun q_3 =>
  if va == [0, 0, 0, 0] then
    group_Member_J1 N va true
  else
    (group_Modulus N).bind fun x8 =>
    (wide_Cmp N va x8).bind fun x9 =>
    group_Member_J1 N va (decide (0 ≤ x9))
def sign_Valid_J1 (N : Nat) (x2 : Bool) : Option Bool :=
  some x2
def sign_Valid (N : Nat) (p : List Int) : Option Bool :=
  (arr 4 p).bind fun q =>
  (wide_FromUint N 1).bind fun x4 =>
  (arr 4 x4).bind fun q_1 =>
  if !(p == x4) then
    (group_Member N p).bind fun x8 =>
    sign_Valid_J1 N x8
  else
    sign_Valid_J1 N false
def sign_scalar (N : Nat) (va : List Int) : Option Bool :=
  (arr 4 va).bind fun q =>
  (group_Order N).bind fun x4 =>
  (wide_Cmp N va x4).bind fun x5 =>
  some (decide (x5 < 0))
def sign_Decode_J1 (N : Nat) (x13 : (List Int)) (x18 : (List Int)) (x29 : Bool) : Option ((List Int) × (List Int) × Int) :=
  if x29 then
    some (List.replicate 4 0, List.replicate 4 0, 5)
  else
    some (x13, x18, 0)
def sign_Decode (N : Nat) (b : List Int) : Option ((List Int) × (List Int) × Int) :=
  if (b.length : Int) != 64 then
    some (List.replicate 4 0, List.replicate 4 0, 8)
  else
    (sub b 0 32).bind fun x10 =>
    (arp 32 x10).bind fun x11 =>
    (wide_FromBytes N x11).bind fun x13 =>
    (sub b 32 (b.length : Int)).bind fun x15 =>
    (arp 32 x15).bind fun x16 =>
    (wide_FromBytes N x16).bind fun x18 =>
    (arr 4 x13).bind fun q =>
    (arr 4 x18).bind fun q_1 =>
    (sign_scalar N x13).bind fun x22 =>
    if !x22 then
      sign_Decode_J1 N x13 x18 true
    else
      (sign_scalar N x18).bind fun x27 =>
      sign_Decode_J1 N x13 x18 (!x27)
def group_Power (N : Nat) (ve : List Int) : Option (List Int) :=
  (wide_FromUint N 4).bind fun x3 =>
  (arr 4 ve).bind fun q =>
  (group_Exp N x3 ve).bind fun x5 =>
  (arr 4 x5).bind fun q_1 =>
  some x5
def wide_Bytes_J1 (N : Nat) (l1 : List Int) : Option (List Int) :=
  (arr 32 l1).bind fun q =>
  some l1
def wide_Bytes_L2 (N : Nat) (va : List Int) : Nat → Int → (List Int) → Option (List Int)
  | 0, _, _ => none
  | m + 1, x5, l2 =>
    if decide (x5 < 32) then
      (aix 4 va (IntKind.i64.wrap (3 - (IntKind.i64.wrap (Int.tdiv x5 8))))).bind fun x12 =>
      (shr .u64 x12 (IntKind.i64.wrap (56 - (IntKind.i64.wrap ((Int.tmod x5 8) * 8))))).bind fun x18 =>
      (aix 32 l2 x5).bind fun x20 =>
      (wide_Bytes_L2 N va m) (IntKind.i64.wrap (x5 + 1)) (l2.set (Int.toNat x5) (IntKind.u8.wrap x18))
    else
      some l2
def wide_Bytes (N : Nat) (va : List Int) : Option (List Int) :=
  (wide_Bytes_L2 N va N 0 (List.replicate 32 0)).bind fun p2 =>
  wide_Bytes_J1 N p2
def sign_row_J1 (N : Nat) (l0 : List Int) : Option (List Int) :=
  some l0
def sign_row_L2 (N : Nat) (parts : List (List Int)) : Nat → Int → (List Int) → Option (List Int)
  | 0, _, _ => none
  | m + 1, x8, l0_1 =>
    if decide (x8 < (parts.length : Int)) then
      (idx parts x8).bind fun x10 =>
      (arr 32 x10).bind fun q =>
      (app 1 l0_1 x10).bind fun x14 =>
      (sign_row_L2 N parts m) (IntKind.i64.wrap (x8 + 1)) x14
    else
      some l0_1
def sign_row (N : Nat) (parts : List (List Int)) : Option (List Int) :=
  (sign_row_L2 N parts N 0 []).bind fun p2 =>
  sign_row_J1 N p2
def sha_Tagged (N : Nat) (tag : ByteArray) (b : List Int) : Option (List Int) :=
  (stb tag).bind fun x7 =>
  (sha_Sum N x7).bind fun x8 =>
  (arr 32 x8).bind fun q =>
  (sha_row N [x8, x8, b]).bind fun x13 =>
  (sha_Sum N x13).bind fun x14 =>
  (arr 32 x14).bind fun q_1 =>
  some x14
def wide_Add_J1 (N : Nat) (carry : Int) (l1 : List Int) : Option ((List Int) × Bool) :=
  (arr 4 l1).bind fun q =>
  some (l1, carry != 0)
def wide_Add_L2 (N : Nat) (va : List Int) (b : List Int) : Nat → Int → Int → (List Int) → Option (Int × (List Int))
  | 0, _, _, _ => none
  | m + 1, carry_1, x9, l3 =>
    if decide (x9 < 4) then
      (aix 4 va x9).bind fun x15 =>
      (aix 4 b x9).bind fun x18 =>
      (math_bits_Add64 N x15 x18 carry_1).bind fun x21 =>
      (aix 4 l3 x9).bind fun x24 =>
      (wide_Add_L2 N va b m) x21.2 (IntKind.i64.wrap (x9 + 1)) (l3.set (Int.toNat x9) x21.1)
    else
      some (carry_1, l3)
def wide_Add (N : Nat) (va : List Int) (b : List Int) : Option ((List Int) × Bool) :=
  (wide_Add_L2 N va b N 0 0 (List.replicate 4 0)).bind fun p2 =>
  wide_Add_J1 N p2.1 p2.2
def wide_AddMod_J1 (N : Nat) (l1 : List Int) : Option (List Int) :=
  (arr 4 l1).bind fun q_4 =>
  some l1
def wide_AddMod_J2 (N : Nat) (vm : List Int) (x20 : (List Int) × Bool) (x29 : Bool) : Option (List Int) :=
  if x29 then
    (wide_Sub N x20.1 vm).bind fun x33 =>
    (arr 4 x33.1).bind fun q_5 =>
    wide_AddMod_J1 N x33.1
  else
    wide_AddMod_J1 N x20.1
def wide_AddMod (N : Nat) (va : List Int) (b : List Int) (vm : List Int) : Option (List Int) :=
  (arr 4 vm).bind fun q =>
  if vm == [0, 0, 0, 0] then
    some [0, 0, 0, 0]
  else
    (arr 4 va).bind fun q_1 =>
    (wide_reduce N va vm).bind fun x16 =>
    (arr 4 b).bind fun q_2 =>
    (wide_reduce N b vm).bind fun x19 =>
    (wide_Add N x16 x19).bind fun x20 =>
    (arr 4 x20.1).bind fun q_3 =>
    if x20.2 then
      wide_AddMod_J2 N vm x20 true
    else
      (wide_Cmp N x20.1 vm).bind fun x27 =>
      wide_AddMod_J2 N vm x20 (decide (0 ≤ x27))
def group_AddScalar (N : Nat) (va : List Int) (b : List Int) : Option (List Int) :=
  (arr 4 va).bind fun q =>
  (arr 4 b).bind fun q_1 =>
  (group_Order N).bind fun x7 =>
  (wide_AddMod N va b x7).bind fun x8 =>
  (arr 4 x8).bind fun q_2 =>
  some x8
def group_Scalar (N : Nat) (vh : List Int) : Option (List Int) :=
  (arr 32 vh).bind fun q =>
  (wide_FromBytes N vh).bind fun x4 =>
  (group_AddScalar N x4 [0, 0, 0, 0]).bind fun x6 =>
  (arr 4 x6).bind fun q_1 =>
  some x6
def sign_Challenge (N : Nat) (vr : List Int) (p : List Int) (vm : List Int) : Option (List Int) :=
  (arr 4 vr).bind fun q =>
  (wide_Bytes N vr).bind fun x8 =>
  (arr 4 p).bind fun q_1 =>
  (wide_Bytes N p).bind fun x10 =>
  (arr 32 vm).bind fun q_2 =>
  (arr 32 x8).bind fun q_3 =>
  (arr 32 x10).bind fun q_4 =>
  (sign_row N [x8, x10, vm]).bind fun x13 =>
  (sha_Tagged N (⟨#[108, 105, 103, 104, 116, 99, 108, 105, 101, 110, 116, 47, 99, 104, 97, 108, 108, 101, 110, 103, 101]⟩) x13).bind fun x14 =>
  (group_Scalar N x14).bind fun x15 =>
  (arr 4 x15).bind fun q_5 =>
  some x15
def sign_Verify_J1 (N : Nat) (p : List Int) (vm : List Int) (s_E : List Int) (s_S : List Int) (x24 : Bool) : Option Bool :=
  if x24 then
    some false
  else
    (group_Order N).bind fun x26 =>
    (arr 4 s_E).bind fun q =>
    (wide_Sub N x26 s_E).bind fun x29 =>
    (arr 4 x29.1).bind fun q_1 =>
    (arr 4 s_S).bind fun q_2 =>
    (group_Power N s_S).bind fun x34 =>
    (arr 4 p).bind fun q_3 =>
    (group_Exp N p x29.1).bind fun x37 =>
    (group_Mul N x34 x37).bind fun x38 =>
    (arr 4 x38).bind fun q_4 =>
    (arr 32 vm).bind fun q_5 =>
    (sign_Challenge N x38 p vm).bind fun x44 =>
    (arr 4 x44).bind fun q_6 =>
    some (s_E == x44)
def sign_Verify (N : Nat) (p : List Int) (vm : List Int) (s_E : List Int) (s_S : List Int) : Option Bool :=
  (arr 4 s_E).bind fun q_7 =>
  (sign_scalar N s_E).bind fun x12 =>
  if !x12 then
    sign_Verify_J1 N p vm s_E s_S true
  else
    (arr 4 s_S).bind fun q_8 =>
    (sign_scalar N s_S).bind fun x17 =>
    if !x17 then
      sign_Verify_J1 N p vm s_E s_S true
    else
      (arr 4 p).bind fun q_9 =>
      (sign_Valid N p).bind fun x22 =>
      sign_Verify_J1 N p vm s_E s_S (!x22)
def script_machine_verify_J1 (N : Nat) (m_Env_Message : List Int) (m_Env_Height : Int) (m_Env_Age : Int) (m_stack : List (List Int)) (m_branches : List S_script_branch) (m_cost : Int) (x40 : Bool) : Option Int :=
  if x40 then
    some 61
  else
    some 0
def script_machine_verify (N : Nat) (m_Env_Message : List Int) (m_Env_Height : Int) (m_Env_Age : Int) (m_stack : List (List Int)) (m_branches : List S_script_branch) (m_cost : Int) (key : List Int) (signature : List Int) : Option Int :=
  if (key.length : Int) != 32 then
    some 60
  else
    (arp 32 key).bind fun x14 =>
    (wide_FromBytes N x14).bind fun x16 =>
    (arr 4 x16).bind fun q =>
    (sign_Valid N x16).bind fun x18 =>
    if !x18 then
      some 60
    else
      if (signature.length : Int) == 0 then
        some 0
      else
        (sign_Decode N signature).bind fun x25 =>
        if x25.2.2 != 0 then
          script_machine_verify_J1 N m_Env_Message m_Env_Height m_Env_Age m_stack m_branches m_cost true
        else
          (arr 32 m_Env_Message).bind fun q_1 =>
          (sign_Verify N x16 m_Env_Message x25.1 x25.2.1).bind fun x38 =>
          script_machine_verify_J1 N m_Env_Message m_Env_Height m_Env_Age m_stack m_branches m_cost (!x38)
def script_machine_signed_J1 (N : Nat) (m_Env_Message : List Int) (m_Env_Height : Int) (m_Env_Age : Int) (m_stack : List (List Int)) (m_branches : List S_script_branch) (m_cost : Int) (least : Int) (vn : Int) (count : Int) : Option (Int × (List Int) × Int × Int × (List (List Int)) × (List S_script_branch) × Int) :=
  (script_flag N (decide (least ≤ count))).bind fun x76 =>
  (script_machine_replace N m_Env_Message m_Env_Height m_Env_Age m_stack m_branches m_cost (IntKind.i64.wrap (2 * vn)) x76).bind fun x77 =>
  some (0, x77.1, x77.2.1, x77.2.2.1, x77.2.2.2.1, x77.2.2.2.2.1, x77.2.2.2.2.2)
def script_machine_signed_J3 (N : Nat) (m_Env_Message : List Int) (m_Env_Height : Int) (m_Env_Age : Int) (m_stack : List (List Int)) (m_branches : List S_script_branch) (m_cost : Int) (least : Int) (vn : Int) (x23 : List (List Int)) (x43 : List (List Int)) (x45 : Int) (rec : Int → Int → Option (LR (Int) (Int × (List Int) × Int × Int × (List (List Int)) × (List S_script_branch) × Int))) (count_2 : Int) : Option (LR (Int) (Int × (List Int) × Int × Int × (List (List Int)) × (List S_script_branch) × Int)) :=
  rec count_2 (IntKind.i64.wrap (x45 + 1))
def script_machine_signed_L2 (N : Nat) (m_Env_Message : List Int) (m_Env_Height : Int) (m_Env_Age : Int) (m_stack : List (List Int)) (m_branches : List S_script_branch) (m_cost : Int) (least : Int) (vn : Int) (x23 : List (List Int)) (x43 : List (List Int)) : Nat → Int → Int → Option (LR (Int) (Int × (List Int) × Int × Int × (List (List Int)) × (List S_script_branch) × Int))
  | 0, _, _ => none
  | m + 1, count_1, x45 =>
    if decide (x45 < vn) then
      (idx x23 x45).bind fun x51 =>
      (idx x43 x45).bind fun x55 =>
      (script_machine_verify N m_Env_Message m_Env_Height m_Env_Age m_stack m_branches m_cost x51 x55).bind fun x57 =>
      if x57 != 0 then
        some (.ret (x57, m_Env_Message, m_Env_Height, m_Env_Age, m_stack, m_branches, m_cost))
      else
        if decide (0 < (x55.length : Int)) then
          script_machine_signed_J3 N m_Env_Message m_Env_Height m_Env_Age m_stack m_branches m_cost least vn x23 x43 x45 (script_machine_signed_L2 N m_Env_Message m_Env_Height m_Env_Age m_stack m_branches m_cost least vn x23 x43 m) (IntKind.i64.wrap (count_1 + 1))
        else
          script_machine_signed_J3 N m_Env_Message m_Env_Height m_Env_Age m_stack m_branches m_cost least vn x23 x43 x45 (script_machine_signed_L2 N m_Env_Message m_Env_Height m_Env_Age m_stack m_branches m_cost least vn x23 x43 m) count_1
    else
      some (.brk count_1)
def script_machine_signed (N : Nat) (m_Env_Message : List Int) (m_Env_Height : Int) (m_Env_Age : Int) (m_stack : List (List Int)) (m_branches : List S_script_branch) (m_cost : Int) (least : Int) (vn : Int) : Option (Int × (List Int) × Int × Int × (List (List Int)) × (List S_script_branch) × Int) :=
  (subs m_stack (IntKind.i64.wrap ((m_stack.length : Int) - vn)) (m_stack.length : Int)).bind fun x23 =>
  (subs m_stack (IntKind.i64.wrap ((m_stack.length : Int) - (IntKind.i64.wrap (2 * vn)))) (IntKind.i64.wrap ((m_stack.length : Int) - vn))).bind fun x43 =>
  (script_machine_signed_L2 N m_Env_Message m_Env_Height m_Env_Age m_stack m_branches m_cost least vn x23 x43 N 0 0).bind fun q => match q with
    | .ret v => some v
    | .brk p2 =>
      script_machine_signed_J1 N m_Env_Message m_Env_Height m_Env_Age m_stack m_branches m_cost least vn p2
def script_Number_J2 (N : Nat) (vn : Int) : Option (Int × Int) :=
  some (vn, 0)
def script_Number_L3 (N : Nat) (b : List Int) : Nat → Int → Int → Option Int
  | 0, _, _ => none
  | m + 1, vn_1, x26 =>
    if decide (x26 < (b.length : Int)) then
      (idx b x26).bind fun x29 =>
      (shl .u32 (IntKind.u32.wrap x29) (IntKind.i64.wrap (8 * x26))).bind fun x36 =>
      (script_Number_L3 N b m) (bits .or .u32 vn_1 x36) (IntKind.i64.wrap (x26 + 1))
    else
      some vn_1
def script_Number_J1 (N : Nat) (b : List Int) (x23 : Bool) : Option (Int × Int) :=
  if x23 then
    some (0, 82)
  else
    (script_Number_L3 N b N 0 0).bind fun p3 =>
    script_Number_J2 N p3
def script_Number (N : Nat) (b : List Int) : Option (Int × Int) :=
  if decide (4 < (b.length : Int)) then
    script_Number_J1 N b true
  else
    if decide (0 < (b.length : Int)) then
      (idx b (IntKind.i64.wrap ((b.length : Int) - 1))).bind fun x19 =>
      script_Number_J1 N b (x19 == 0)
    else
      script_Number_J1 N b false
def script_locked (N : Nat) (item : List Int) (now : Int) : Option Int :=
  (script_Number N item).bind fun x9 =>
  if x9.2 != 0 then
    some x9.2
  else
    if decide (now < (IntKind.i64.wrap x9.1)) then
      some 85
    else
      some 0
def script_machine_carry_J1 (N : Nat) (c0 : List Int) (c0_1 : Int) (c0_2 : Int) (c0_3 : Int) (l3 : List (List Int)) (l4 : List S_script_branch) : Option (Int × (List Int) × Int × Int × (List (List Int)) × (List S_script_branch) × Int) :=
  some (0, c0, c0_1, c0_2, l3, l4, c0_3)
def script_machine_carry (N : Nat) (m_Env_Message : List Int) (m_Env_Height : Int) (m_Env_Age : Int) (m_stack : List (List Int)) (m_branches : List S_script_branch) (m_cost : Int) (op_Code : Int) (op_Data : List Int) (op_M : Int) (op_N : Int) : Option (Int × (List Int) × Int × Int × (List (List Int)) × (List S_script_branch) × Int) :=
  if op_Code == 1 then
    (script_machine_push N m_Env_Message m_Env_Height m_Env_Age m_stack m_branches m_cost op_Data).bind fun x14 =>
    some (x14.1, x14.2.1, x14.2.2.1, x14.2.2.2.1, x14.2.2.2.2.1, x14.2.2.2.2.2.1, x14.2.2.2.2.2.2)
  else
    if op_Code == 2 then
      (script_machine_top N m_Env_Message m_Env_Height m_Env_Age m_stack m_branches m_cost).bind fun x19 =>
      (script_machine_push N m_Env_Message m_Env_Height m_Env_Age m_stack m_branches m_cost x19).bind fun x20 =>
      some (x20.1, x20.2.1, x20.2.2.1, x20.2.2.2.1, x20.2.2.2.2.1, x20.2.2.2.2.2.1, x20.2.2.2.2.2.2)
    else
      if op_Code == 3 then
        (script_machine_drop N m_Env_Message m_Env_Height m_Env_Age m_stack m_branches m_cost 1).bind fun x24 =>
        script_machine_carry_J1 N x24.1 x24.2.1 x24.2.2.1 x24.2.2.2.2.2 x24.2.2.2.1 x24.2.2.2.2.1
      else
        if op_Code == 4 then
          (idx m_stack (IntKind.i64.wrap ((m_stack.length : Int) - 2))).bind fun x50 =>
          (idx m_stack (IntKind.i64.wrap ((m_stack.length : Int) - 1))).bind fun x58 =>
          (idx (m_stack.set (Int.toNat (IntKind.i64.wrap ((m_stack.length : Int) - 1))) x50) (IntKind.i64.wrap ((m_stack.length : Int) - 2))).bind fun x61 =>
          script_machine_carry_J1 N m_Env_Message m_Env_Height m_Env_Age m_cost ((m_stack.set (Int.toNat (IntKind.i64.wrap ((m_stack.length : Int) - 1))) x50).set (Int.toNat (IntKind.i64.wrap ((m_stack.length : Int) - 2))) x58) m_branches
        else
          if op_Code == 5 then
            (script_machine_top N m_Env_Message m_Env_Height m_Env_Age m_stack m_branches m_cost).bind fun x66 =>
            (idx m_stack (IntKind.i64.wrap ((m_stack.length : Int) - 2))).bind fun x77 =>
            (bytes_Equal N x66 x77).bind fun x79 =>
            (script_flag N x79).bind fun x80 =>
            (script_machine_replace N m_Env_Message m_Env_Height m_Env_Age m_stack m_branches m_cost 2 x80).bind fun x81 =>
            script_machine_carry_J1 N x81.1 x81.2.1 x81.2.2.1 x81.2.2.2.2.2 x81.2.2.2.1 x81.2.2.2.2.1
          else
            if op_Code == 6 then
              (script_machine_top N m_Env_Message m_Env_Height m_Env_Age m_stack m_branches m_cost).bind fun x86 =>
              (script_truth N x86).bind fun x87 =>
              (script_flag N (!x87)).bind fun x89 =>
              (script_machine_replace N m_Env_Message m_Env_Height m_Env_Age m_stack m_branches m_cost 1 x89).bind fun x90 =>
              script_machine_carry_J1 N x90.1 x90.2.1 x90.2.2.1 x90.2.2.2.2.2 x90.2.2.2.1 x90.2.2.2.2.1
            else
              if op_Code == 7 then
                (script_machine_top N m_Env_Message m_Env_Height m_Env_Age m_stack m_branches m_cost).bind fun x94 =>
                (script_truth N x94).bind fun x95 =>
                if !x95 then
                  some (84, m_Env_Message, m_Env_Height, m_Env_Age, m_stack, m_branches, m_cost)
                else
                  (script_machine_drop N m_Env_Message m_Env_Height m_Env_Age m_stack m_branches m_cost 1).bind fun x98 =>
                  script_machine_carry_J1 N x98.1 x98.2.1 x98.2.2.1 x98.2.2.2.2.2 x98.2.2.2.1 x98.2.2.2.2.1
              else
                if op_Code == 8 then
                  (script_machine_top N m_Env_Message m_Env_Height m_Env_Age m_stack m_branches m_cost).bind fun x102 =>
                  (sha_Sum N x102).bind fun x103 =>
                  (arr 32 x103).bind fun q =>
                  (script_machine_replace N m_Env_Message m_Env_Height m_Env_Age m_stack m_branches m_cost 1 x103).bind fun x106 =>
                  script_machine_carry_J1 N x106.1 x106.2.1 x106.2.2.1 x106.2.2.2.2.2 x106.2.2.2.1 x106.2.2.2.2.1
                else
                  if op_Code == 9 then
                    (script_machine_top N m_Env_Message m_Env_Height m_Env_Age m_stack m_branches m_cost).bind fun x111 =>
                    (script_Item N (IntKind.u32.wrap (x111.length : Int))).bind fun x114 =>
                    (script_machine_push N m_Env_Message m_Env_Height m_Env_Age m_stack m_branches m_cost x114).bind fun x115 =>
                    some (x115.1, x115.2.1, x115.2.2.1, x115.2.2.2.1, x115.2.2.2.2.1, x115.2.2.2.2.2.1, x115.2.2.2.2.2.2)
                  else
                    if op_Code == 10 then
                      (script_machine_signed N m_Env_Message m_Env_Height m_Env_Age m_stack m_branches m_cost 1 1).bind fun x119 =>
                      some (x119.1, x119.2.1, x119.2.2.1, x119.2.2.2.1, x119.2.2.2.2.1, x119.2.2.2.2.2.1, x119.2.2.2.2.2.2)
                    else
                      if op_Code == 11 then
                        (script_machine_signed N m_Env_Message m_Env_Height m_Env_Age m_stack m_branches m_cost op_M op_N).bind fun x127 =>
                        some (x127.1, x127.2.1, x127.2.2.1, x127.2.2.2.1, x127.2.2.2.2.1, x127.2.2.2.2.2.1, x127.2.2.2.2.2.2)
                      else
                        if op_Code == 12 then
                          (script_machine_top N m_Env_Message m_Env_Height m_Env_Age m_stack m_branches m_cost).bind fun x131 =>
                          (script_locked N x131 m_Env_Height).bind fun x137 =>
                          some (x137, m_Env_Message, m_Env_Height, m_Env_Age, m_stack, m_branches, m_cost)
                        else
                          if op_Code == 13 then
                            (script_machine_top N m_Env_Message m_Env_Height m_Env_Age m_stack m_branches m_cost).bind fun x141 =>
                            (script_locked N x141 m_Env_Age).bind fun x147 =>
                            some (x147, m_Env_Message, m_Env_Height, m_Env_Age, m_stack, m_branches, m_cost)
                          else
                            if op_Code == 17 then
                              some (84, m_Env_Message, m_Env_Height, m_Env_Age, m_stack, m_branches, m_cost)
                            else
                              script_machine_carry_J1 N m_Env_Message m_Env_Height m_Env_Age m_cost m_stack m_branches
def script_machine_step_J3 (N : Nat) (c0_1 : List Int) (c0_2 : Int) (c0_3 : Int) (c0_4 : Int) (l3 : List (List Int)) (l4 : List S_script_branch) : Option (Int × (List Int) × Int × Int × (List (List Int)) × (List S_script_branch) × Int) :=
  some (0, c0_1, c0_2, c0_3, l3, l4, c0_4)
def script_machine_step_J4 (N : Nat) (m_Env_Message : List Int) (m_Env_Height : Int) (m_Env_Age : Int) (m_stack : List (List Int)) (counted : Bool) (c0 : Int) (l3_1 : List S_script_branch) : Option (Int × (List Int) × Int × Int × (List (List Int)) × (List S_script_branch) × Int) :=
  if counted then
    (script_machine_drop N m_Env_Message m_Env_Height m_Env_Age m_stack l3_1 c0 1).bind fun x86 =>
    script_machine_step_J3 N x86.1 x86.2.1 x86.2.2.1 x86.2.2.2.2.2 x86.2.2.2.1 x86.2.2.2.2.1
  else
    script_machine_step_J3 N m_Env_Message m_Env_Height m_Env_Age c0 m_stack l3_1
def script_machine_step_J2 (N : Nat) (m_Env_Message : List Int) (m_Env_Height : Int) (m_Env_Age : Int) (m_stack : List (List Int)) (m_branches : List S_script_branch) (op_Code : Int) (op_Data : List Int) (op_M : Int) (op_N : Int) (counted : Bool) (c0 : Int) : Option (Int × (List Int) × Int × Int × (List (List Int)) × (List S_script_branch) × Int) :=
  if op_Code == 14 then
    if counted then
      (script_machine_top N m_Env_Message m_Env_Height m_Env_Age m_stack m_branches c0).bind fun x76 =>
      (script_truth N x76).bind fun x77 =>
      (app 2 m_branches [(S_script_branch.mk counted x77)]).bind fun x81 =>
      script_machine_step_J4 N m_Env_Message m_Env_Height m_Env_Age m_stack counted c0 x81
    else
      (app 2 m_branches [(S_script_branch.mk counted false)]).bind fun x81_1 =>
      script_machine_step_J4 N m_Env_Message m_Env_Height m_Env_Age m_stack counted c0 x81_1
  else
    if op_Code == 15 then
      (idx m_branches (IntKind.i64.wrap ((m_branches.length : Int) - 1))).bind fun x99 =>
      script_machine_step_J3 N m_Env_Message m_Env_Height m_Env_Age c0 m_stack (m_branches.set (Int.toNat (IntKind.i64.wrap ((m_branches.length : Int) - 1))) (S_script_branch.mk x99.outer (!x99.taken)))
    else
      if op_Code == 16 then
        (sub m_branches 0 (IntKind.i64.wrap ((m_branches.length : Int) - 1))).bind fun x113 =>
        script_machine_step_J3 N m_Env_Message m_Env_Height m_Env_Age c0 m_stack x113
      else
        if counted then
          (script_machine_carry N m_Env_Message m_Env_Height m_Env_Age m_stack m_branches c0 op_Code op_Data op_M op_N).bind fun x64 =>
          some (x64.1, x64.2.1, x64.2.2.1, x64.2.2.2.1, x64.2.2.2.2.1, x64.2.2.2.2.2.1, x64.2.2.2.2.2.2)
        else
          script_machine_step_J3 N m_Env_Message m_Env_Height m_Env_Age c0 m_stack m_branches
def script_machine_step_J1 (N : Nat) (m_Env_Message : List Int) (m_Env_Height : Int) (m_Env_Age : Int) (m_stack : List (List Int)) (m_branches : List S_script_branch) (m_cost : Int) (op_Code : Int) (op_Data : List Int) (op_M : Int) (op_N : Int) (counted : Bool) : Option (Int × (List Int) × Int × Int × (List (List Int)) × (List S_script_branch) × Int) :=
  if counted then
    (script_price N op_Code op_Data op_M op_N).bind fun x36 =>
    if decide (500 < (IntKind.i64.wrap (m_cost + x36))) then
      some (83, m_Env_Message, m_Env_Height, m_Env_Age, m_stack, m_branches, IntKind.i64.wrap (m_cost + x36))
    else
      (script_needs N op_Code op_Data op_M op_N).bind fun x51 =>
      if decide ((m_stack.length : Int) < x51) then
        some (81, m_Env_Message, m_Env_Height, m_Env_Age, m_stack, m_branches, IntKind.i64.wrap (m_cost + x36))
      else
        script_machine_step_J2 N m_Env_Message m_Env_Height m_Env_Age m_stack m_branches op_Code op_Data op_M op_N counted (IntKind.i64.wrap (m_cost + x36))
  else
    script_machine_step_J2 N m_Env_Message m_Env_Height m_Env_Age m_stack m_branches op_Code op_Data op_M op_N counted m_cost
def script_machine_step_J5 (N : Nat) (m_Env_Message : List Int) (m_Env_Height : Int) (m_Env_Age : Int) (m_stack : List (List Int)) (m_branches : List S_script_branch) (m_cost : Int) (op_Code : Int) (op_Data : List Int) (op_M : Int) (op_N : Int) (x8 : Bool) (x16 : Bool) : Option (Int × (List Int) × Int × Int × (List (List Int)) × (List S_script_branch) × Int) :=
  if x16 then
    (idx m_branches (IntKind.i64.wrap ((m_branches.length : Int) - 1))).bind fun x27 =>
    script_machine_step_J1 N m_Env_Message m_Env_Height m_Env_Age m_stack m_branches m_cost op_Code op_Data op_M op_N x27.outer
  else
    script_machine_step_J1 N m_Env_Message m_Env_Height m_Env_Age m_stack m_branches m_cost op_Code op_Data op_M op_N x8
def script_machine_step (N : Nat) (m_Env_Message : List Int) (m_Env_Height : Int) (m_Env_Age : Int) (m_stack : List (List Int)) (m_branches : List S_script_branch) (m_cost : Int) (op_Code : Int) (op_Data : List Int) (op_M : Int) (op_N : Int) : Option (Int × (List Int) × Int × Int × (List (List Int)) × (List S_script_branch) × Int) :=
  (script_machine_active N m_Env_Message m_Env_Height m_Env_Age m_stack m_branches m_cost).bind fun x8 =>
  if op_Code == 15 then
    script_machine_step_J5 N m_Env_Message m_Env_Height m_Env_Age m_stack m_branches m_cost op_Code op_Data op_M op_N x8 true
  else
    script_machine_step_J5 N m_Env_Message m_Env_Height m_Env_Age m_stack m_branches m_cost op_Code op_Data op_M op_N x8 (op_Code == 16)
def script_Run_J2 (N : Nat) (c0 : List Int) (c0_1 : Int) (c0_2 : Int) (c0_3 : Int) (l1 : List (List Int)) (l2_1 : List S_script_branch) : Option ((List (List Int)) × Int × Int) :=
  (script_copied N l1).bind fun x47 =>
  some (x47, c0_3, 0)
def script_Run_L3 (N : Nat) (x17 : (List S_api_Op) × Int) : Nat → Int → (List Int) → Int → Int → Int → (List (List Int)) → (List S_script_branch) → Option (LR ((List Int) × Int × Int × Int × (List (List Int)) × (List S_script_branch)) ((List (List Int)) × Int × Int))
  | 0, _, _, _, _, _, _, _ => none
  | m + 1, x35, c0_4, c0_5, c0_6, c0_7, l2_2, l3 =>
    if decide (x35 < (x17.1.length : Int)) then
      (idx x17.1 x35).bind fun x37 =>
      (script_machine_step N c0_4 c0_5 c0_6 l2_2 l3 c0_7 x37.Code x37.Data x37.M x37.N).bind fun x40 =>
      if x40.1 != 0 then
        some (.ret ([], 0, x40.1))
      else
        (script_Run_L3 N x17 m) (IntKind.i64.wrap (x35 + 1)) x40.2.1 x40.2.2.1 x40.2.2.2.1 x40.2.2.2.2.2.2 x40.2.2.2.2.1 x40.2.2.2.2.2.1
    else
      some (.brk (c0_4, c0_5, c0_6, c0_7, l2_2, l3))
def script_Run_J1 (N : Nat) (e_Message : List Int) (e_Height : Int) (e_Age : Int) (x17 : (List S_api_Op) × Int) (l2 : List (List Int)) : Option ((List (List Int)) × Int × Int) :=
  (script_Run_L3 N x17 N 0 e_Message e_Height e_Age 0 l2 []).bind fun q => match q with
    | .ret v => some v
    | .brk p3 =>
      script_Run_J2 N p3.1 p3.2.1 p3.2.2.1 p3.2.2.2.1 p3.2.2.2.2.1 p3.2.2.2.2.2
def script_Run (N : Nat) (b : List Int) (stack : List (List Int)) (e_Message : List Int) (e_Height : Int) (e_Age : Int) : Option ((List (List Int)) × Int × Int) :=
  (script_Parse N b).bind fun x17 =>
  if x17.2 != 0 then
    some ([], 0, x17.2)
  else
    (script_nested N x17.1).bind fun x24 =>
    if !x24 then
      some ([], 0, 86)
    else
      (script_bounded N stack).bind fun x27 =>
      if !x27 then
        some ([], 0, 4)
      else
        (script_copied N stack).bind fun x31 =>
        script_Run_J1 N e_Message e_Height e_Age x17 x31
def law08_sane_J1 (N : Nat) (x0 : Bool) : Option Bool :=
  some x0
def law08_sane (N : Nat) : Option Bool :=
  (script_Run N [2, 5] [[7]] (List.replicate 32 0) 0 0).bind fun x11 =>
  (script_Number N [1, 0]).bind fun x17 =>
  if x11.2.2 == 0 then
    if x11.2.1 == 2 then
      if (x11.1.length : Int) == 1 then
        (idx x11.1 0).bind fun x33 =>
        if (x33.length : Int) == 1 then
          if x17.2 == 82 then
            (script_Item N 0).bind fun x43 =>
            law08_sane_J1 N ((x43.length : Int) == 0)
          else
            law08_sane_J1 N false
        else
          law08_sane_J1 N false
      else
        law08_sane_J1 N false
    else
      law08_sane_J1 N false
  else
    law08_sane_J1 N false
def keep_Items_J1 (N : Nat) : Option Bool :=
  some true
def keep_Items_L2 (N : Nat) (l : List (List Int)) (vm : Int) : Nat → Int → Option (LR (Unit) (Bool))
  | 0, _ => none
  | m + 1, x15 =>
    if decide (x15 < (l.length : Int)) then
      (idx l x15).bind fun x17 =>
      if decide (vm < (x17.length : Int)) then
        some (.ret false)
      else
        (keep_Items_L2 N l vm m) (IntKind.i64.wrap (x15 + 1))
    else
      some (.brk ())
def keep_Items (N : Nat) (l : List (List Int)) (vn : Int) (vm : Int) : Option Bool :=
  if decide (vn < (l.length : Int)) then
    some false
  else
    (keep_Items_L2 N l vm N 0).bind fun q => match q with
      | .ret v => some v
      | .brk p2 =>
        keep_Items_J1 N
def ref01_Same (N : Nat) (va : List Int) (b : List Int) : Option Bool :=
  some ((strOf va).toList == (strOf b).toList)
def ref08_SameItems_J1 (N : Nat) : Option Bool :=
  some true
def ref08_SameItems_L2 (N : Nat) (va : List (List Int)) (b : List (List Int)) : Nat → Int → Option (LR (Unit) (Bool))
  | 0, _ => none
  | m + 1, x13 =>
    if decide (x13 < (va.length : Int)) then
      (idx va x13).bind fun x18 =>
      (idx b x13).bind fun x22 =>
      (ref01_Same N x18 x22).bind fun x24 =>
      if !x24 then
        some (.ret false)
      else
        (ref08_SameItems_L2 N va b m) (IntKind.i64.wrap (x13 + 1))
    else
      some (.brk ())
def ref08_SameItems (N : Nat) (va : List (List Int)) (b : List (List Int)) : Option Bool :=
  if (va.length : Int) != (b.length : Int) then
    some false
  else
    (ref08_SameItems_L2 N va b N 0).bind fun q => match q with
      | .ret v => some v
      | .brk p2 =>
        ref08_SameItems_J1 N
def law08_ScriptJoins_J4 (N : Nat) (x8 : Bool) : Option Bool :=
  some x8
def law08_ScriptJoins_J3 (N : Nat) (x35 : (List (List Int)) × Int × Int) (x43 : (List (List Int)) × Int × Int) (k : Int) (g : Int) (l1 : List (List Int)) : Option Bool :=
  if g == 0 then
    if k == (IntKind.i64.wrap (x35.2.1 + x43.2.1)) then
      (ref08_SameItems N l1 x43.1).bind fun x82 =>
      law08_ScriptJoins_J4 N x82
    else
      law08_ScriptJoins_J4 N false
  else
    law08_ScriptJoins_J4 N false
def law08_ScriptJoins_J2 (N : Nat) (va : List Int) (b : List Int) (stack : List (List Int)) (v_Message : List Int) (v_Height : Int) (v_Age : Int) (x35 : (List (List Int)) × Int × Int) (x43 : (List (List Int)) × Int × Int) (x58 : Bool) : Option Bool :=
  if x58 then
    some true
  else
    (app 1 [] va).bind fun x61 =>
    (app 1 x61 b).bind fun x63 =>
    (script_Run N x63 stack v_Message v_Height v_Age).bind fun x66 =>
    law08_ScriptJoins_J3 N x35 x43 x66.2.1 x66.2.2 x66.1
def law08_ScriptJoins_J1 (N : Nat) (va : List Int) (b : List Int) (stack : List (List Int)) (v_Message : List Int) (v_Height : Int) (v_Age : Int) (x30 : Bool) : Option Bool :=
  if x30 then
    some true
  else
    (script_Run N va stack v_Message v_Height v_Age).bind fun x35 =>
    (script_Run N b x35.1 v_Message v_Height v_Age).bind fun x43 =>
    if x35.2.2 != 0 then
      law08_ScriptJoins_J2 N va b stack v_Message v_Height v_Age x35 x43 true
    else
      if x43.2.2 != 0 then
        law08_ScriptJoins_J2 N va b stack v_Message v_Height v_Age x35 x43 true
      else
        law08_ScriptJoins_J2 N va b stack v_Message v_Height v_Age x35 x43 (decide (500 < (IntKind.i64.wrap (x35.2.1 + x43.2.1))))
def law08_ScriptJoins (N : Nat) (va : List Int) (b : List Int) (stack : List (List Int)) (v_Message : List Int) (v_Height : Int) (v_Age : Int) : Option Bool :=
  (law08_sane N).bind fun x18 =>
  if !x18 then
    some false
  else
    if decide (520 < (IntKind.i64.wrap ((va.length : Int) + (b.length : Int)))) then
      law08_ScriptJoins_J1 N va b stack v_Message v_Height v_Age true
    else
      (keep_Items N stack 20 200).bind fun x28 =>
      law08_ScriptJoins_J1 N va b stack v_Message v_Height v_Age (!x28)
def script_Satisfied (N : Nat) (b : List Int) (witness : List (List Int)) (e_Message : List Int) (e_Height : Int) (e_Age : Int) : Option Int :=
  (script_Run N b witness e_Message e_Height e_Age).bind fun x14 =>
  if x14.2.2 != 0 then
    some x14.2.2
  else
    if (x14.1.length : Int) != 1 then
      some 81
    else
      (idx x14.1 0).bind fun x28 =>
      (script_truth N x28).bind fun x30 =>
      if !x30 then
        some 84
      else
        some 0
def law08_ScriptLater_J2 (N : Nat) (b : List Int) (witness : List (List Int)) (v_Message : List Int) (v_Height : Int) (v_Age : Int) (height : Int) (age : Int) : Option Bool :=
  (script_Satisfied N b witness v_Message (IntKind.i64.wrap (v_Height + (IntKind.i64.wrap height))) (IntKind.i64.wrap (v_Age + (IntKind.i64.wrap age)))).bind fun x55 =>
  some (x55 == 0)
def law08_ScriptLater_J1 (N : Nat) (b : List Int) (witness : List (List Int)) (v_Message : List Int) (v_Height : Int) (v_Age : Int) (height : Int) (age : Int) (x38 : Bool) : Option Bool :=
  if x38 then
    some true
  else
    law08_ScriptLater_J2 N b witness v_Message v_Height v_Age height age
def law08_ScriptLater (N : Nat) (b : List Int) (witness : List (List Int)) (v_Message : List Int) (v_Height : Int) (v_Age : Int) (height : Int) (age : Int) : Option Bool :=
  (law08_sane N).bind fun x12 =>
  if !x12 then
    some false
  else
    if decide (300 < (b.length : Int)) then
      law08_ScriptLater_J1 N b witness v_Message v_Height v_Age height age true
    else
      (keep_Items N witness 20 200).bind fun x19 =>
      if !x19 then
        law08_ScriptLater_J1 N b witness v_Message v_Height v_Age height age true
      else
        (script_Satisfied N b witness v_Message v_Height v_Age).bind fun x26 =>
        if x26 != 0 then
          law08_ScriptLater_J1 N b witness v_Message v_Height v_Age height age true
        else
          if decide (16777216 < v_Height) then
            law08_ScriptLater_J1 N b witness v_Message v_Height v_Age height age true
          else
            law08_ScriptLater_J1 N b witness v_Message v_Height v_Age height age (decide (16777216 < v_Age))
end Go.Proofs.YtokmcbfnfmpemaaDoor
set_option linter.unusedSimpArgs false
set_option linter.unusedVariables false
namespace Go.Vm
open Go Go.ChangeShapes Go.WideShapes Go.ChangeAt Go.RowKit
section
variable {P : Program} {t e : TypeId}
theorem VCells_map {α : Type} {w : World} {E : α → V} : ∀ (l : List α) (vs : List Value), l.length = vs.length → (∀ (i : Nat) (x : α) (v : Value), l[i]? = some x → vs[i]? = some v → VR NoX [] w (E x) v) → VCells NoX [] w (l.map E) vs
  | [], [], _, _ => VCells_nil
  | [], _ :: _, h, _ => by cases h
  | _ :: _, [], h, _ => by cases h
  | x :: l, v :: vs, h, k => VCells_cons (k 0 x v rfl rfl) (VCells_map l vs (by simpa using h) fun i x' v' h1 h2 => k (i + 1) x' v' (by simpa using h1) (by simpa using h2))
theorem opens_array {n : Nat} {k : IntKind} (ht : P.underlying t = some (.array n e)) (he : P.underlying e = some (.int k)) (h1 : P.cellsOf e = 1) (hn : P.cellsOf t = n) :
    Opens P t (fun x : {l : List Int // l.length = n} => ∀ y ∈ x.1, (Lit.int k y).wf = true) (fun x => x.1.map (eI k)) := by
  intro H enc w spare held fuel cs x h
  obtain ⟨xs, m, _, _, hl, hxs, hf⟩ := DataW.trod_array ht h
  rw [hn] at hl
  have each : ∀ i, i < n → ∃ a : Int, (Lit.int k a).wf = true ∧ ∀ v, cs[i]? = some v → VR NoX [] w (eI k a) v := by
    intro i hi
    have h2 := hf i hi
    rw [h1, Nat.mul_one, List.getElem?_eq_getElem (by omega)] at h2
    obtain ⟨a, hw, hc⟩ := opens_int he h2
    refine ⟨a, hw, fun v hv => ?_⟩
    have e2 : (cs.drop i).take 1 = [v] := by
      obtain ⟨hic, rfl⟩ := List.getElem?_eq_some_iff.1 hv
      rw [List.drop_eq_getElem_cons hic]; rfl
    rw [e2] at hc
    exact VCells_get1 hc
  obtain ⟨l, hll, hr⟩ := list_choice n each
  refine ⟨⟨l, hll⟩, fun y hy => ?_, VCells_map l cs (by omega) fun i x v h1 h2 => (hr i x h1).2 v h2⟩
  obtain ⟨i, hi, rfl⟩ := List.mem_iff_getElem.1 hy
  exact (hr i _ (List.getElem?_eq_getElem hi)).1
theorem okWide_array {w : World} {r : Reach} {base : Nat} {v : Value} {n : Nat} (ht : P.underlying t = some (.array n e)) (h : Value.okWide P w r base t v) : ∃ cs, v = .agg cs := by
  simp only [Value.okWide, ht] at h
  obtain ⟨cs, h1, _⟩ := h
  exact ⟨cs, h1⟩
theorem openV_array {n : Nat} {k : IntKind} (ht : P.underlying t = some (.array n e)) (he : P.underlying e = some (.int k)) (h1 : P.cellsOf e = 1) (hn : P.cellsOf t = n) :
    OpenV P t (fun x : {l : List Int // l.length = n} => ∀ y ∈ x.1, (Lit.int k y).wf = true) (fun x => eA (eI k) x.1) := by
  intro H enc w base v d p hv ⟨fuel, h⟩
  obtain ⟨cs, rfl⟩ := okWide_array ht hv
  obtain ⟨a, hq, hc⟩ := opens_array ht he h1 hn h
  exact ⟨a, hq, by have := VR_agg hc; simpa [Value.cells] using this⟩
theorem openV_arrays {n : Nat} {k : IntKind} {s : TypeId} (hs : P.underlying s = some (.slice t)) (ht : P.underlying t = some (.array n e)) (he : P.underlying e = some (.int k)) (h1 : P.cellsOf e = 1) (hn : P.cellsOf t = n) (h0 : 0 < n) :
    OpenV P s (fun l : List (List Int) => ∀ x ∈ l, x.length = n ∧ ∀ y ∈ x, (Lit.int k y).wf = true) (eL n (eA (eI k))) := by
  intro H enc w base v d p hv hh
  obtain ⟨a, hq, hc⟩ := openV_slice hs (opens_array ht he h1 hn) hn h0 (elem_agg (K := n) (C := fun x : {l : List Int // l.length = n} => x.1.map (eI k)) (fun x => by simp [x.2]) (fun x => List.all_eq_true.2 fun y hy => by simp only [List.mem_map] at hy; obtain ⟨z, _, rfl⟩ := hy; rfl)) hv hh
  refine ⟨a.map (·.1), fun x hx => ?_, ?_⟩
  · simp only [List.mem_map] at hx
    obtain ⟨y, hy, rfl⟩ := hx
    exact ⟨y.2, hq y hy⟩
  · have : (eL n (eA (eI k)) (a.map (·.1))) = eL n (fun x : {l : List Int // l.length = n} => V.agg (x.1.map (eI k))) a := by
      simp only [eL, List.map_map]; rfl
    rw [this]; exact hc
theorem opens_arr {n : Nat} {k : IntKind} (ht : P.underlying t = some (.array n e)) (he : P.underlying e = some (.int k)) (h1 : P.cellsOf e = 1) (hn : P.cellsOf t = n) :
    Opens P t (fun x : List Int => x.length = n ∧ ∀ y ∈ x, (Lit.int k y).wf = true) (fun x => x.map (eI k)) := by
  intro H enc w spare held fuel cs x h
  obtain ⟨a, hq, hc⟩ := opens_array ht he h1 hn h
  exact ⟨a.1, ⟨a.2, hq⟩, hc⟩
theorem openV_arr {n : Nat} {k : IntKind} (ht : P.underlying t = some (.array n e)) (he : P.underlying e = some (.int k)) (h1 : P.cellsOf e = 1) (hn : P.cellsOf t = n) :
    OpenV P t (fun x : List Int => x.length = n ∧ ∀ y ∈ x, (Lit.int k y).wf = true) (fun x => eA (eI k) x) := by
  intro H enc w base v d p hv hh
  obtain ⟨a, hq, hc⟩ := openV_array ht he h1 hn hv hh
  exact ⟨a.1, ⟨a.2, hq⟩, hc⟩
theorem opens_arrays {n : Nat} {k : IntKind} {s : TypeId} (hs : P.underlying s = some (.slice t)) (ht : P.underlying t = some (.array n e)) (he : P.underlying e = some (.int k)) (h1 : P.cellsOf e = 1) (hn : P.cellsOf t = n) (h0 : 0 < n) :
    Opens P s (fun l : List (List Int) => ∀ x ∈ l, x.length = n ∧ ∀ y ∈ x, (Lit.int k y).wf = true) (fun l => [.row none n (l.map (eA (eI k)))]) := by
  intro H enc w spare held fuel cs x h
  obtain ⟨a, hq, hc⟩ := opens_slice hs (opens_array ht he h1 hn) hn h0 (elem_agg (K := n) (C := fun x : {l : List Int // l.length = n} => x.1.map (eI k)) (fun x => by simp [x.2]) (fun x => List.all_eq_true.2 fun y hy => by simp only [List.mem_map] at hy; obtain ⟨z, _, rfl⟩ := hy; rfl)) h
  refine ⟨a.map (·.1), fun x hx => ?_, ?_⟩
  · simp only [List.mem_map] at hx
    obtain ⟨y, hy, rfl⟩ := hx
    exact ⟨y.2, hq y hy⟩
  · have : (a.map (·.1)).map (eA (eI k)) = a.map (fun x : {l : List Int // l.length = n} => V.agg (x.1.map (eI k))) := by
      simp only [List.map_map]; rfl
    dsimp only
    rw [this]; exact hc
theorem VCells_app {w : World} : ∀ {A B : List V} {us bs : List Value}, VCells NoX [] w A us → VCells NoX [] w B bs → VCells NoX [] w (A ++ B) (us ++ bs)
  | [], B, us, bs, h, k => by
    unfold VCells at h
    subst h
    exact k
  | a :: A, B, us, bs, h, k => by
    unfold VCells at h
    obtain ⟨v, rest, rfl, h1, h2⟩ := h
    exact VCells_cons h1 (VCells_app h2 k)
theorem VCells_at {w : World} {A B : List V} {cs : List Value} {o n : Nat} (h : VCells NoX [] w A ((cs.drop o).take n)) (k : VCells NoX [] w B (cs.drop (o + n))) : VCells NoX [] w (A ++ B) (cs.drop o) := by
  have e : cs.drop o = (cs.drop o).take n ++ cs.drop (o + n) := by rw [← List.drop_drop, List.take_append_drop]
  rw [e]
  exact VCells_app h k
theorem VCells_end {w : World} {cs : List Value} {n : Nat} (h : cs.length = n) : VCells NoX [] w [] (cs.drop n) := by
  rw [List.drop_eq_nil_of_le (by omega)]; exact VCells_nil
end
end Go.Vm
set_option linter.unusedSimpArgs false
set_option linter.unusedVariables false
namespace Go.Proofs.YtokmcbfnfmpemaaDoor
open Go Go.Vm
open Go.ChangeShapes Go.WideShapes Go.ChangeAt Go.RowKit
structure S_api_Env where
  Message : List Int
  Height : Int
  Age : Int
abbrev C_api_Env (x : S_api_Env) : List V := (ar32 (eI .u8) x.Message [(eI .i64 x.Height), (eI .i64 x.Age)])
abbrev E_api_Env (x : S_api_Env) : V := .agg (C_api_Env x)
@[simp] theorem rns_C_api_Env {f : Nat → Nat} (l : List S_api_Env) : V.rns f (l.flatMap C_api_Env) = l.flatMap C_api_Env := rns_flat (fun _ => rfl) l
@[simp] theorem rns_K_api_Env {f : Nat → Nat} (x : S_api_Env) : V.rns f (C_api_Env x) = C_api_Env x := rfl
def Q_api_Env (x : S_api_Env) : Prop := (x.Message.length = 32 ∧ ∀ z0 ∈ x.Message, (Lit.int .u8 z0).wf = true) ∧ ((Lit.int .i64 x.Height).wf = true) ∧ ((Lit.int .i64 x.Age).wf = true)
set_option maxRecDepth 100000 in
theorem opens_api_Env : Opens Tryd.prog 27 Q_api_Env C_api_Env := by
  intro H enc w spare held fuel cs x h
  obtain ⟨xs, n, _, _, hl, hlen, hf⟩ := DataW.trod_struct Tryd.underlying27 h
  rw [show Tryd.prog.cellsOf 27 = 34 by kernel_rfl] at hl
  match xs, hlen, hf with
  | [y0, y1, y2], _, hf =>
    have h0 : DataW.trod enc Tryd.prog w 0 spare held n 25 ((cs.drop 0).take (Tryd.prog.cellsOf 25)) = some y0 := hf 0 _ rfl
    obtain ⟨a0, q0, c0⟩ := (opens_arr Tryd.underlying25 Tryd.underlying5 (by kernel_rfl) (by kernel_rfl)) h0
    rw [show Tryd.prog.cellsOf 25 = 32 by kernel_rfl] at c0
    have h1 : DataW.trod enc Tryd.prog w 0 spare held n 3 ((cs.drop 32).take (Tryd.prog.cellsOf 3)) = some y1 := hf 1 _ rfl
    obtain ⟨a1, q1, c1⟩ := (opens_int Tryd.underlying3) h1
    rw [show Tryd.prog.cellsOf 3 = 1 by kernel_rfl] at c1
    have h2 : DataW.trod enc Tryd.prog w 0 spare held n 3 ((cs.drop 33).take (Tryd.prog.cellsOf 3)) = some y2 := hf 2 _ rfl
    obtain ⟨a2, q2, c2⟩ := (opens_int Tryd.underlying3) h2
    rw [show Tryd.prog.cellsOf 3 = 1 by kernel_rfl] at c2
    refine ⟨⟨a0, a1, a2⟩, ⟨q0, q1, q2⟩, ?_⟩
    have c := (VCells_at (o := 0) c0 (VCells_at (o := 32) c1 (VCells_at (o := 33) c2 (VCells_end hl))))
    simp only [C_api_Env, ar32_map q0.1]
    exact c
end Go.Proofs.YtokmcbfnfmpemaaDoor
set_option linter.unusedSimpArgs false
set_option linter.unusedVariables false
namespace Go.Vm
open Go
theorem lim_big' : 10000000 ≤ lim := by decide
def iN (l : List Nat) : List Int := l.map fun (x : Nat) => (x : Int)
theorem iN_len (l : List Nat) : (iN l).length = l.length := by simp [iN]
theorem iN_idx (l : List Nat) {j : Nat} (h : j < l.length) : idx (iN l) (j : Int) = some ((l[j] : Nat) : Int) := by
  rw [idx_lt _ (by rw [iN_len]; exact h)]; simp [iN]
theorem iN_app (l m : List Nat) : iN l ++ iN m = iN (l ++ m) := by simp [iN]
theorem iN_take (l : List Nat) (k : Nat) : (iN l).take k = iN (l.take k) := by simp [iN, List.map_take]
theorem iN_drop (l : List Nat) (k : Nat) : (iN l).drop k = iN (l.drop k) := by simp [iN, List.map_drop]
theorem iN_byt {l : List Nat} (h : ∀ x ∈ l, x < 256) : Byt (iN l) := by
  intro x hx
  simp only [iN, List.mem_map] at hx
  obtain ⟨y, hy, rfl⟩ := hx
  have := h y hy
  omega
theorem byt_iN {d : List Int} (h : Byt d) : iN (d.map Int.toNat) = d ∧ ∀ x ∈ d.map Int.toNat, x < 256 := by
  constructor
  · simp only [iN, List.map_map]
    conv => rhs; rw [← List.map_id d]
    refine List.map_congr_left fun x hx => ?_
    have := h x hx
    simp only [Function.comp, id]; omega
  · intro x hx
    simp only [List.mem_map] at hx
    obtain ⟨y, hy, rfl⟩ := hx
    have := h y hy
    omega
theorem byt_nat {d : List Int} (h : Byt d) : ∃ l : List Nat, d = iN l ∧ ∀ x ∈ l, x < 256 := ⟨_, (byt_iN h).1.symm, (byt_iN h).2⟩
theorem i1 {j : Nat} (hj : j ≤ 100000) : IntKind.i64.wrap ((j : Int) + 1) = ((j + 1 : Nat) : Int) := by rw [w64 (by omega) (by omega)]; simp
theorem dT {j n : Nat} (h : j < n) : decide ((j : Int) < (n : Int)) = true := by simpa using h
theorem dF {j n : Nat} (h : ¬ j < n) : decide ((j : Int) < (n : Int)) = false := by simp; omega
theorem app1 {l : List Nat} {x : Nat} (h : l.length ≤ 100000) : app 1 (iN l) [(x : Int)] = some (iN (l ++ [x])) := by
  have := lim_big'
  rw [app_ok (by rw [iN_len]; simp; omega)]
  simp [iN]
theorem app2 {l m : List Int} (h : l.length + m.length ≤ 1000000) : app 1 l m = some (l ++ m) := by
  have := lim_big'
  exact app_ok (by omega)
end Go.Vm
set_option linter.unusedSimpArgs false
set_option linter.unusedVariables false
namespace Go.Vm
open Go
theorem lim_big2 : 100000000 ≤ lim := by decide
theorem appB {l m : List Int} (h : l.length + m.length ≤ 100000000) : app 1 l m = some (l ++ m) := by
  have := lim_big2
  exact app_ok (by omega)
theorem loop_flat {α : Type} {f : Nat → Int → List Int → Option (List Int)} {xs : List α} {g : α → List Int} {B : Nat} (hn : xs.length ≤ 100000)
    (hs : ∀ m j acc (hj : j < xs.length), acc.length + (g xs[j]).length ≤ B → f (m + 1) (j : Int) acc = f m ((j + 1 : Nat) : Int) (acc ++ g xs[j])) (he : ∀ m j acc, xs.length ≤ j → f (m + 1) (j : Int) acc = some acc) :
    ∀ (m j : Nat) (acc : List Int), xs.length - j < m → j ≤ xs.length → acc.length + ((xs.drop j).flatMap g).length ≤ B → f m (j : Int) acc = some (acc ++ (xs.drop j).flatMap g)
  | 0, j, acc, hm, _, _ => by omega
  | m + 1, j, acc, hm, hj, hB => by
    by_cases h : j < xs.length
    · rw [List.drop_eq_getElem_cons h, List.flatMap_cons, List.length_append] at hB
      rw [hs m j acc h (by omega), loop_flat hn hs he m (j + 1) _ (by omega) (by omega) (by rw [List.length_append]; omega), List.drop_eq_getElem_cons h, List.flatMap_cons, List.append_assoc]
    · rw [he m j acc (by omega), List.drop_eq_nil_of_le (by omega)]; simp
theorem loop_all {α R : Type} {f : Nat → Int → Option (LR Unit R)} {xs : List α} {p : α → Bool} {r : R}
    (hs : ∀ m j (hj : j < xs.length), f (m + 1) (j : Int) = if p xs[j] = true then f m ((j + 1 : Nat) : Int) else some (.ret r)) (he : ∀ m j, xs.length ≤ j → f (m + 1) (j : Int) = some (.brk ())) :
    ∀ (m j : Nat), xs.length - j < m → j ≤ xs.length → f m (j : Int) = some (if (xs.drop j).all p = true then .brk () else .ret r)
  | 0, j, hm, _ => by omega
  | m + 1, j, hm, hj => by
    by_cases h : j < xs.length
    · rw [hs m j h, loop_all hs he m (j + 1) (by omega) (by omega), List.drop_eq_getElem_cons h, List.all_cons]
      cases p xs[j] <;> simp
    · rw [he m j (by omega), List.drop_eq_nil_of_le (by omega)]; simp
theorem loop_allI {R : Type} {f : Nat → Int → Option (LR Unit R)} {n : Nat} {p : Nat → Bool} {r : R}
    (hs : ∀ m j, j < n → f (m + 1) (j : Int) = if p j = true then f m ((j + 1 : Nat) : Int) else some (.ret r)) (he : ∀ m j, n ≤ j → f (m + 1) (j : Int) = some (.brk ())) :
    ∀ (m j : Nat), n - j < m → j ≤ n → f m (j : Int) = some (if (List.range' j (n - j)).all p = true then .brk () else .ret r)
  | 0, j, hm, _ => by omega
  | m + 1, j, hm, hj => by
    by_cases h : j < n
    · rw [hs m j h, loop_allI hs he m (j + 1) (by omega) (by omega), show n - j = (n - (j + 1)) + 1 by omega, List.range'_succ, List.all_cons]
      cases p j
      · rfl
      · simp only [Bool.true_and, if_true]
    · rw [he m j (by omega), show n - j = 0 by omega]; simp
theorem loop_fold {α σ : Type} {f : Nat → σ → Int → Option σ} {xs : List α} {g : σ → α → σ}
    (hs : ∀ m s j (hj : j < xs.length), f (m + 1) s (j : Int) = f m (g s xs[j]) ((j + 1 : Nat) : Int)) (he : ∀ m s j, xs.length ≤ j → f (m + 1) s (j : Int) = some s) :
    ∀ (m : Nat) (s : σ) (j : Nat), xs.length - j < m → j ≤ xs.length → f m s (j : Int) = some ((xs.drop j).foldl g s)
  | 0, s, j, hm, _ => by omega
  | m + 1, s, j, hm, hj => by
    by_cases h : j < xs.length
    · rw [hs m s j h, loop_fold hs he m _ (j + 1) (by omega) (by omega), List.drop_eq_getElem_cons h, List.foldl_cons]
    · rw [he m s j (by omega), List.drop_eq_nil_of_le (by omega)]; rfl
end Go.Vm
