/- Texts of ours, joined: VmDrawG, VmFrz, VmStr, VmArr, VmExt, VmStl, VmEq, VmAis, VmShort, Sh, OpenArr, OpenS, Plain1, Plain2, PlainW1. -/
import Derived.Test.YtnoofjkaeidagaaDoorQSpendMessages2
import Derived.Laws.IdiomStrings
import Derived.ChangeKeysEq
import Derived.OpenShut
set_option linter.unusedSimpArgs false
set_option linter.unusedVariables false
namespace Go.Vm
open Go
def Grows (O : Orc) (G : FuncId → Bool) : Prop := ∀ f h args r h', G f = true → O f h args = some (r, h') → ∃ news, h' = h ++ news
def growOp (G : FuncId → Bool) (o : Oper) : Bool :=
  allocOp o || (match o.op with
    | .call c => match c.callee with
      | .value (.func f) => G f
      | _ => false
    | _ => false)
def pairG (F G : FuncId → Bool) (ops : Array Oper) (oj oi : Oper) : Bool :=
  oj.apart ops oi && ((stillOp F oj && stillOp F oi) || (growOp G oj && still0 oi) || (still0 oj && growOp G oi))
section
variable {P : Program} {O O' : Orc} {F G : FuncId → Bool} {s : List V} {h h' : Hp} {ops : Array Oper}
theorem inScope.mono {n m : Nat} (hnm : n ≤ m) {z : V} (hz : inScope n z) : inScope m z := by
  cases z <;> first | trivial | exact Nat.lt_of_lt_of_le hz hnm
theorem Scoped.mono {n m : Nat} (hnm : n ≤ m) {o : Oper} (hs : Scoped s o n) : Scoped s o m := fun y hy z hz => (hs y hy z hz).mono hnm
theorem stepVal_apps {o : Oper} (hs : still0 o = true) : ∀ (news : Hp) {h : Hp}, Scoped s o h.length → stepVal P O ops o s (h ++ news) = (stepVal P O ops o s h).map fun p => (p.1, h ++ news)
  | [], h, hsc => by
    simp only [List.append_nil]
    cases hv : stepVal P O ops o s h with
    | none => rfl
    | some p =>
      obtain ⟨v, g⟩ := p
      obtain rfl : g = h := stepVal_same (F := fun _ => false) (fun _ _ _ _ _ hf => by cases hf) hs hv
      rfl
  | x :: news, h, hsc => by
    have e1 : h ++ x :: news = (h ++ [x]) ++ news := by simp
    rw [e1, stepVal_apps hs news (hsc.mono (by simp)), stepVal_app hs hsc]
    cases stepVal P O ops o s h <;> rfl
theorem stepVal_grow (hG : Grows O G) {o : Oper} (hg : growOp G o = true) {r : V} (hr : stepVal P O ops o s h = some (r, h')) : ∃ news, h' = h ++ news := by
  unfold stepVal at hr
  split at hr
  · rename_i hw
    clear hw
    simp only [growOp, Bool.or_eq_true] at hg
    rcases hg with hg | hg
    · obtain ⟨B, hB⟩ := alloc_form hg hr; exact ⟨_, hB⟩
    · obtain ⟨dst, op, type, pos, after, guard⟩ := o
      cases op <;> simp only [Bool.false_eq_true] at hg
      case call c =>
        obtain ⟨callee, args, argTypes⟩ := c
        cases callee <;> simp only [Bool.false_eq_true] at hg
        case value f =>
          cases f <;> simp only [Bool.false_eq_true] at hg
          case func f =>
            simp only [absOp, callV] at hr
            split at hr
            · cases hr
            · exact hG _ _ _ _ _ hg hr
  · simp only [Option.some.injEq, Prod.mk.injEq] at hr; exact ⟨[], by simp [hr.2]⟩
  · cases hr
def StepR (P : Program) (F G : FuncId → Bool) (ops : Array Oper) (o : Oper) (s : List V) (h : Hp) (s1 : List V) (h1 : Hp) : Prop :=
  ∃ O, OrcOk P O ∧ Stills O F ∧ Grows O G ∧ absStep P O ops o s h = some (s1, h1)
theorem StepR.comm {oj oi : Oper} (hp : pairG F G ops oj oi = true) (hsi : Scoped s oi h.length) (hsj : Scoped s oj h.length) {s1 s2 : List V} {h1 h2 : Hp}
    (e1 : StepR P F G ops oj s h s1 h1) (e2 : StepR P F G ops oi s1 h1 s2 h2) : ∃ s3 h3, StepR P F G ops oi s h s3 h3 ∧ StepR P F G ops oj s3 h3 s2 h2 := by
  obtain ⟨O1, ok1, hF1, hG1, e1⟩ := e1
  obtain ⟨O2, ok2, hF2, hG2, e2⟩ := e2
  simp only [pairG, Bool.and_eq_true, Bool.or_eq_true] at hp
  obtain ⟨hap, hp⟩ := hp
  obtain ⟨a1, a2, a3⟩ := Oper.apart_spec hap
  rw [absStep_eq] at e1 e2
  simp only [Option.map_eq_some_iff, Prod.mk.injEq] at e1 e2
  obtain ⟨⟨v1, g1⟩, f1, rfl, rfl⟩ := e1
  obtain ⟨⟨v2, g2⟩, f2, rfl, rfl⟩ := e2
  simp only at f1 f2 ⊢
  rw [stepVal_put oi _ _ a1] at f2
  rcases hp with (⟨hj, hi⟩ | ⟨hj, hi⟩) | ⟨hj, hi⟩
  · obtain rfl := stepVal_same hF1 hj f1
    obtain rfl := stepVal_same hF2 hi f2
    refine ⟨putV s oi.dst v2, _, ⟨O2, ok2, hF2, hG2, by rw [absStep_eq, f2]; rfl⟩, O1, ok1, hF1, hG1, ?_⟩
    rw [absStep_eq, stepVal_put oj _ _ a3, f1]
    simp only [Option.map_some]
    rw [putV_comm s v1 v2 a2]
  · obtain ⟨news, rfl⟩ := stepVal_grow hG1 hj f1
    rw [stepVal_apps hi news hsi] at f2
    simp only [Option.map_eq_some_iff, Prod.mk.injEq] at f2
    obtain ⟨⟨v3, g3⟩, f3, rfl, rfl⟩ := f2
    obtain rfl : g3 = h := stepVal_same (F := fun _ => false) (fun _ _ _ _ _ hf => by cases hf) hi f3
    refine ⟨putV s oi.dst v3, g3, ⟨O2, ok2, hF2, hG2, by rw [absStep_eq, f3]; rfl⟩, O1, ok1, hF1, hG1, ?_⟩
    rw [absStep_eq, stepVal_put oj _ _ a3, f1]
    simp only [Option.map_some]
    rw [putV_comm s v1 v3 a2]
  · obtain rfl : g1 = h := stepVal_same (F := fun _ => false) (fun _ _ _ _ _ hf => by cases hf) hj f1
    refine ⟨putV s oi.dst v2, g2, ⟨O2, ok2, hF2, hG2, by rw [absStep_eq, f2]; rfl⟩, O1, ok1, hF1, hG1, ?_⟩
    obtain ⟨news, rfl⟩ := stepVal_grow hG2 hi f2
    rw [absStep_eq, stepVal_put oj _ _ a3, stepVal_apps hj news hsj, f1]
    simp only [Option.map_some]
    rw [putV_comm s v1 v2 a2]
def Real (s : List V) (h : Hp) : Prop := ∃ A M a w, Rel A M s h a w
theorem StepR.real {i : Nat} {o : Oper} (hi : ops[i]? = some o) {s1 : List V} {h1 : Hp} (hr : Real s h) (e : StepR P F G ops o s h s1 h1) : Real s1 h1 := by
  obtain ⟨A, M, a, w, R⟩ := hr
  obtain ⟨O, ok, _, _, e⟩ := e
  obtain ⟨a', w', M', R'⟩ := wpOp_exists (step_sound (Q := fun _ _ _ => False) ok R hi e (K := fun a' w' => ∃ M', Rel A M' s1 h1 a' w') fun a' w' M' _ R' => ⟨M', R'⟩)
  exact ⟨A, M', a', w', R'⟩
def DrawS (P : Program) (N : Nat) (ops : Array Oper) (m : Nat) (listed : Array Bool) (s : List V) (h : Hp) (K : List V → Hp → Prop) : Prop :=
  ∀ (A : Nat → Prop) (M0 M : List (Option Nat)) (h0 : Hp) (w0 : World) (a : Act) (w : World) (Q : Exit → Act → World → Prop), h0.length = N → M0.length = N → Grow A M0 h0 w0 M h w → Rel A M s h a w →
    (∀ s' h' M' a' w', K s' h' → Grow A M0 h0 w0 M' h' w' → Rel A M' s' h' a' w' → Q .normal a' w') → wpAny P .any ops Q m listed a w
def cutB (ops : Array Oper) (listed : Array Bool) : Bool :=
  (List.range ops.size).all fun j => listed.getD j true || (List.range ops.size).all fun i => !(listed.getD i false) || (ancL ops j j [j]).contains i
def Good (P : Program) (N : Nat) (F G : FuncId → Bool) (ops : Array Oper) (K : List V → Hp → Prop) : Nat → Array Bool → List V → Hp → Prop
  | 0, listed, s, h => remOf ops.size listed = [] ∧ K s h
  | n + 1, listed, s, h => (cutB ops listed = true ∧ DrawS P N ops (n + 1) listed s h K) ∨ (Real s h → Region.ready .any ops listed ≠ [] ∧ ∀ i ∈ Region.ready .any ops listed, ∃ o s1 h1, ops[i]? = some o ∧ StepR P F G ops o s h s1 h1 ∧ Good P N F G ops K n (listed.setIfInBounds i true) s1 h1)
theorem ready_rem {listed : Array Bool} {i : Nat} (hi : i ∈ Region.ready .any ops listed) : i ∈ remOf ops.size listed := by
  obtain ⟨h1, o, ho, _⟩ := mem_ready.1 hi
  simp only [remOf, List.mem_filter, List.mem_range]
  exact ⟨(Array.getElem?_eq_some_iff.1 ho).1, by simp [h1]⟩
theorem Good.sound {N : Nat} {A : Nat → Prop} {M0 : List (Option Nat)} {h0 : Hp} (hN : h0.length = N) (hM : M0.length = N) {w0 : World} {K : List V → Hp → Prop} {Q : Exit → Act → World → Prop} :
    ∀ (n : Nat) (listed : Array Bool) {M : List (Option Nat)} {s : List V} {h : Hp} {a : Act} {w : World}, Good P N F G ops K n listed s h → Grow A M0 h0 w0 M h w → Rel A M s h a w →
    (∀ s' h' M' a' w', K s' h' → Grow A M0 h0 w0 M' h' w' → Rel A M' s' h' a' w' → Q .normal a' w') → wpAny P .any ops Q n listed a w
  | 0, listed, M, s, h, a, w, hg, Gr, R, hQ => by
    obtain ⟨hnil, hk⟩ := hg
    refine ⟨?_, hQ s h M a w hk Gr R⟩
    apply List.eq_nil_iff_forall_not_mem.2
    intro i hi
    have := ready_rem hi
    rw [hnil] at this
    cases this
  | n + 1, listed, M, s, h, a, w, hg, Gr, R, hQ => by
    rcases hg with ⟨_, hg⟩ | hg
    · exact hg A M0 M h0 w0 a w Q hN hM Gr R hQ
    obtain ⟨hne, hall⟩ := hg ⟨A, M, a, w, R⟩
    refine ⟨fun hn => absurd hn hne, fun i hi => ?_⟩
    obtain ⟨o, s1, h1, ho, ⟨O, ok, _, _, e⟩, hg'⟩ := hall i hi
    refine step_sound ok R ho e fun a' w' M' G' R' => ?_
    exact Good.sound hN hM n _ hg' (Gr.trans G') R' hQ
def pickOk (F G : FuncId → Bool) (ops : Array Oper) (listed : Array Bool) (i : Nat) : Bool :=
  (Region.ready .any ops listed).contains i && (match ops[i]? with
    | none => false
    | some oi => (List.range ops.size).all fun j => (j == i) || listed.getD j true || (match ops[j]? with
      | none => true
      | some oj => pairG F G ops oi oj || (ancL ops j j [j]).contains i))
theorem getD_set_self {listed : Array Bool} {i : Nat} (d : Bool) (hi : i < listed.size) : (listed.setIfInBounds i true).getD i d = true := by simp [hi]
theorem set_comm_true (listed : Array Bool) (i j : Nat) : (listed.setIfInBounds i true).setIfInBounds j true = (listed.setIfInBounds j true).setIfInBounds i true := by
  by_cases hij : i = j
  · subst hij; rfl
  · apply Array.ext'
    apply List.ext_getElem?
    intro k
    simp only [Array.getElem?_toList, Array.getElem?_setIfInBounds]
    by_cases h1 : i = k <;> by_cases h2 : j = k <;> simp_all
theorem cut_ready {listed : Array Bool} {i j : Nat} {oj : Oper} (hi : i < ops.size) (hc : Closed ops listed) (hsz : listed.size = ops.size) (hcut : cutB ops (listed.setIfInBounds i true) = true) (hij : i ≠ j) (huni : listed.getD i true = false) (hunj : listed.getD j true = false) (hoj : ops[j]? = some oj) (hprej : ∀ e ∈ oj.after, Region.binds .any e = true → listed.getD e.on false = true) : False := by
  have hjn : j < ops.size := (Array.getElem?_eq_some_iff.1 hoj).1
  have h1 := List.all_eq_true.1 hcut j (by simpa using hjn)
  rw [getD_set_ne true hij, hunj] at h1
  simp only [Bool.false_or] at h1
  have h2 := List.all_eq_true.1 h1 i (by simpa using hi)
  rw [getD_set_self false (by rw [hsz]; exact hi)] at h2
  simp only [Bool.not_true, Bool.false_or] at h2
  rcases ancL_listed hc hoj hprej j [j] (by simp) i (by simpa using h2) with h4 | h4
  · exact hij h4
  · have := getD_both huni
    rw [h4] at this; cases this
theorem Good.pick {N : Nat} {K : List V → Hp → Prop} : ∀ (n : Nat) {listed : Array Bool} {s : List V} {h : Hp} {i : Nat} {oi : Oper} {s1 : List V} {h1 : Hp}, listed.size = ops.size → Closed ops listed → pickOk F G ops listed i = true → ops[i]? = some oi → StepR P F G ops oi s h s1 h1 →
    Good P N F G ops K n (listed.setIfInBounds i true) s1 h1 → Good P N F G ops K (n + 1) listed s h
  | 0, listed, s, h, i, oi, s1, h1, hsz, hc, hp, hoi, e, hg => by
    refine .inr fun hr => ?_
    simp only [pickOk, Bool.and_eq_true] at hp
    have hi : i ∈ Region.ready .any ops listed := by simpa using hp.1
    refine ⟨(fun hn => by rw [hn] at hi; cases hi), fun j hj => ?_⟩
    by_cases hij : i = j
    · subst hij; exact ⟨oi, s1, h1, hoi, e, hg⟩
    · exfalso
      obtain ⟨hun, oj, hoj, _⟩ := mem_ready.1 hj
      have : j ∈ remOf ops.size (listed.setIfInBounds i true) := by
        simp only [remOf, List.mem_filter, List.mem_range]
        exact ⟨(Array.getElem?_eq_some_iff.1 hoj).1, by rw [getD_set_ne true hij, hun]; rfl⟩
      rw [hg.1] at this
      cases this
  | n + 1, listed, s, h, i, oi, s1, h1, hsz, hc, hp, hoi, e, hg => by
    refine .inr fun hr => ?_
    have hp0 := hp
    simp only [pickOk, Bool.and_eq_true] at hp
    have hi : i ∈ Region.ready .any ops listed := by simpa using hp.1
    obtain ⟨huni, _, hoi', hprei⟩ := mem_ready.1 hi
    obtain rfl : oi = _ := Option.some.inj (hoi.symm.trans hoi')
    refine ⟨(fun hn => by rw [hn] at hi; cases hi), fun j hj => ?_⟩
    by_cases hij : i = j
    · subst hij; exact ⟨oi, s1, h1, hoi, e, hg⟩
    obtain ⟨hunj, oj, hoj, hprej⟩ := mem_ready.1 hj
    have hjn : j < ops.size := (Array.getElem?_eq_some_iff.1 hoj).1
    have hin : i < ops.size := (Array.getElem?_eq_some_iff.1 hoi).1
    have hj' : j ∈ Region.ready .any ops (listed.setIfInBounds i true) := mem_ready.2 ⟨by rw [getD_set_ne true hij]; exact hunj, oj, hoj, fun ed he hb => getD_set_true (hprej ed he hb)⟩
    have hr1 : Real s1 h1 := e.real hoi hr
    rcases hg with ⟨hcut, _⟩ | hg
    · exact (cut_ready hin hc hsz hcut hij huni hunj hoj hprej).elim
    obtain ⟨_, hall⟩ := hg hr1
    obtain ⟨oj', s2, h2, hoj', e2, hg2⟩ := hall j hj'
    obtain rfl : oj = oj' := Option.some.inj (hoj.symm.trans hoj')
    have hpair : pairG F G ops oi oj = true := by
      rw [hoi] at hp
      have h3 := List.all_eq_true.1 hp.2 j (by simpa using hjn)
      simp only [hoj, Bool.or_eq_true, beq_iff_eq] at h3
      rcases h3 with (h3 | h3) | (h3 | h3)
      · exact absurd h3.symm hij
      · rw [hunj] at h3; cases h3
      · exact h3
      · exfalso
        rcases ancL_listed hc hoj hprej j [j] (by simp) i (by simpa using h3) with h4 | h4
        · exact hij h4
        · have := getD_both huni
          rw [h4] at this; cases this
    obtain ⟨A, M, a, w, R⟩ := hr
    have hsc := R.scopeOk
    obtain ⟨s3, h3, f1, f2⟩ := StepR.comm hpair (hsc.op oj) (hsc.op oi) e e2
    refine ⟨oj, s3, h3, hoj, f1, ?_⟩
    have hc' : Closed ops (listed.setIfInBounds j true) := by
      intro k ok hk hl ed he hb
      by_cases hjk : j = k
      · subst hjk
        obtain rfl : ok = oj := Option.some.inj (hk.symm.trans hoj)
        exact getD_set_true (hprej ed he hb)
      · rw [getD_set_ne false hjk] at hl
        exact getD_set_true (hc k ok hk hl ed he hb)
    have hp' : pickOk F G ops (listed.setIfInBounds j true) i = true := by
      have hi2 : i ∈ Region.ready .any ops (listed.setIfInBounds j true) := mem_ready.2 ⟨by rw [getD_set_ne true (Ne.symm hij)]; exact huni, oi, hoi, fun ed he hb => getD_set_true (hprei ed he hb)⟩
      simp only [pickOk, Bool.and_eq_true, hoi]
      refine ⟨by simpa using hi2, List.all_eq_true.2 fun k hk => ?_⟩
      rw [hoi] at hp
      have h3 := List.all_eq_true.1 hp.2 k hk
      simp only [Bool.or_eq_true] at h3 ⊢
      rcases h3 with (h3 | h3) | h3
      · exact .inl (.inl h3)
      · refine .inl (.inr ?_)
        by_cases hjk : j = k
        · subst hjk; exact getD_set_self true (by rw [hsz]; exact hjn)
        · rw [getD_set_ne true hjk]; exact h3
      · exact .inr h3
    refine Good.pick n (by simpa using hsz) hc' hp' hoi f2 ?_
    rw [set_comm_true]
    exact hg2
def DrawG (P : Program) (N : Nat) (F G : FuncId → Bool) (ops : Array Oper) (n : Nat) (listed : Array Bool) (s : List V) (h : Hp) (K : List V → Hp → Prop) : Prop := Good P N F G ops K n listed s h
def closedB (ops : Array Oper) (listed : Array Bool) : Bool :=
  (List.range ops.size).all fun j => match ops[j]? with
    | none => true
    | some oj => !(listed.getD j false) || oj.after.all fun e => !(Region.binds .any e) || listed.getD e.on false
theorem closedB_spec {listed : Array Bool} (hb : closedB ops listed = true) : Closed ops listed := by
  intro j oj hj hl e he hbi
  have hjn : j < ops.size := (Array.getElem?_eq_some_iff.1 hj).1
  have h1 := List.all_eq_true.1 hb j (by simpa using hjn)
  simp only [hj, hl, Bool.not_true, Bool.false_or] at h1
  have h2 := Array.all_eq_true_iff_forall_mem.1 h1 e he
  simpa [hbi] using h2
variable {N n m t : Nat} {fr : List (Nat × V)} {K : List V → Hp → Prop} {op : Op} {ty : TypeId} {pos : String} {aft : Array Edge} {v : V} {gd : Option (Nat × Bool)} {listed : Array Bool} {i : Nat}
theorem DrawG.nil (hr : remOf ops.size listed = []) (hk : K s h) : DrawG P N F G ops 0 listed s h K := ⟨hr, hk⟩
def pickAll (F G : FuncId → Bool) (ops : Array Oper) (listed : Array Bool) (i : Nat) : Bool := (listed.size == ops.size) && closedB ops listed && pickOk F G ops listed i
theorem DrawG.pick {o : Oper} {s1 : List V} {h1 : Hp} (hp : pickAll F G ops listed i = true) (ho : ops[i]? = some o) (e : StepR P F G ops o s h s1 h1) (k : DrawG P N F G ops n (listed.setIfInBounds i true) s1 h1 K) : DrawG P N F G ops (n + 1) listed s h K := by
  simp only [pickAll, Bool.and_eq_true, beq_iff_eq] at hp
  exact Good.pick n hp.1.1 (closedB_spec hp.1.2) hp.2 ho e k
def Fork (P : Program) (N : Nat) (F G : FuncId → Bool) (ops : Array Oper) (n : Nat) (listed : Array Bool) (s : List V) (h : Hp) (K : List V → Hp → Prop) : List Nat → Prop
  | [] => True
  | i :: l => (∃ o s1 h1, ops[i]? = some o ∧ StepR P F G ops o s h s1 h1 ∧ DrawG P N F G ops n (listed.setIfInBounds i true) s1 h1 K) ∧ Fork P N F G ops n listed s h K l
theorem Fork.all : ∀ {l : List Nat}, Fork P N F G ops n listed s h K l → ∀ i ∈ l, ∃ o s1 h1, ops[i]? = some o ∧ StepR P F G ops o s h s1 h1 ∧ Good P N F G ops K n (listed.setIfInBounds i true) s1 h1
  | [], _, i, hi => by cases hi
  | j :: l, hf, i, hi => by
    rcases List.mem_cons.1 hi with rfl | hi
    · exact hf.1
    · exact Fork.all hf.2 i hi
theorem DrawG.fork (l : List Nat) (hl : Region.ready .any ops listed = l) (hne : l ≠ []) (hf : Fork P N F G ops n listed s h K l) : DrawG P N F G ops (n + 1) listed s h K := by
  refine .inr fun _ => ?_
  rw [hl]
  exact ⟨hne, hf.all⟩
theorem DrawG.gh {s' : List V} (hc : cutB ops listed = true) (hg : Ghost N s h s' h') (k : DrawG P N F G ops (n + 1) listed s' h' K) : DrawG P N F G ops (n + 1) listed s h K := by
  refine .inl ⟨hc, fun A M0 M h0 w0 a w Q hN hM Gr R hQ => ?_⟩
  obtain ⟨t, ht⟩ := Gr.pre
  have hle : N ≤ M.length := by rw [← ht]; simp [hM]
  obtain ⟨M', h1, h2, h3⟩ := hg A M a w hle R
  refine Good.sound hN hM _ _ k ⟨?_, h2.hr, Gr.ext, fun g hg hl => Gr.live g hg (h3 g hl)⟩ h2 hQ
  have : M0 = M'.take N := by rw [h1, ← ht, ← hM]; simp
  rw [this]
  exact List.take_prefix _ _
theorem Fork.nil : Fork P N F G ops n listed s h K [] := trivial
theorem Fork.cons {l : List Nat} {o : Oper} {s1 : List V} {h1 : Hp} (ho : ops[i]? = some o) (e : StepR P F G ops o s h s1 h1) (k : DrawG P N F G ops n (listed.setIfInBounds i true) s1 h1 K) (r : Fork P N F G ops n listed s h K l) : Fork P N F G ops n listed s h K (i :: l) := ⟨⟨o, s1, h1, ho, e, k⟩, r⟩
theorem noStill : Stills O0 F := fun _ _ _ _ _ _ hh => by cases hh
theorem noGrow : Grows O0 G := fun _ _ _ _ _ _ hh => by cases hh
theorem gS (hs : stepVal P O0 ops ⟨some t, op, ty, pos, aft, gd⟩ (mkF m fr) h = some (v, h')) : StepR P F G ops ⟨some t, op, ty, pos, aft, gd⟩ (mkF m fr) h (mkF m ((t, v) :: fr)) h' :=
  ⟨O0, noOrc, noStill, noGrow, by rw [absStep_eq, hs]; simp only [Option.map_some]; rw [putF]⟩
theorem gN (hs : stepVal P O0 ops ⟨none, op, ty, pos, aft, gd⟩ (mkF m fr) h = some (v, h')) : StepR P F G ops ⟨none, op, ty, pos, aft, gd⟩ (mkF m fr) h (mkF m fr) h' :=
  ⟨O0, noOrc, noStill, noGrow, by rw [absStep_eq, hs]; rfl⟩
theorem gC {f : FuncId} {xs : List V} (hc : Fn P f h xs v h') (hF : F f = true → h' = h) (hG : G f = true → ∃ news, h' = h ++ news) (hs : stepVal P (orc1 f h xs v h') ops ⟨some t, op, ty, pos, aft, gd⟩ (mkF m fr) h = some (v, h')) :
    StepR P F G ops ⟨some t, op, ty, pos, aft, gd⟩ (mkF m fr) h (mkF m ((t, v) :: fr)) h' := by
  refine ⟨orc1 f h xs v h', orc1_ok hc, ?_, ?_, by rw [absStep_eq, hs]; simp only [Option.map_some]; rw [putF]⟩
  · intro k h1 args r1 h2 hk hh
    unfold orc1 at hh
    split at hh
    · rename_i he
      obtain ⟨rfl, rfl, rfl⟩ := he
      simp only [Option.some.injEq, Prod.mk.injEq] at hh
      rw [← hh.2]; exact hF hk
    · cases hh
  · intro k h1 args r1 h2 hk hh
    unfold orc1 at hh
    split at hh
    · rename_i he
      obtain ⟨rfl, rfl, rfl⟩ := he
      simp only [Option.some.injEq, Prod.mk.injEq] at hh
      rw [← hh.2]; exact hG hk
    · cases hh
def memF (l : List Nat) : FuncId → Bool := fun f => l.elem f
end
theorem AB.rd {P : Program} {N : Nat} {Q : Ex → List V → Hp → Prop} {s : List V} {h : Hp} (F G : FuncId → Bool) (hm : P.follows .mixedOrders = true) {id : Nat} {l : List Oper} (hr : DrawG P N F G l.toArray l.toArray.size (Array.replicate l.toArray.size false) s h (Q .normal)) : AB P N (.region id l.toArray true) Q s h := by
  intro A M0 M h0 w0 a w hN hM Gr R
  refine wp_region_any hm ?_
  have R' : Rel A M s h a w.drew := ⟨R.hr.drew, SR.keep (Grow.drew R.hr) R.sr, R.defers⟩
  exact Good.sound hN hM _ _ hr (Gr.trans (Grow.drew R.hr)) R' (fun s' h' M' a' w' hk G' R'' => ⟨.normal, s', h', M', rfl, hk, G', R''⟩)
end Go.Vm
set_option linter.unusedSimpArgs false
set_option linter.unusedVariables false
namespace Go.Vm
open Go
def Conv (h h' : Hp) (x y : V) : Prop := ∀ (A : Nat → Prop) (M : List (Option Nat)) (w : World) (v : Value), HR A M h w → VR (Xs A M h) M w x v → VR (Xs A M h') M w y v
def Convs (h h' : Hp) : List V → List V → Prop
  | [], [] => True
  | x :: xs, y :: ys => Conv h h' x y ∧ Convs h h' xs ys
  | _, _ => False
def Sub (h h' : Hp) : Prop := ∀ (b : Nat) (B' : Blk), h'[b]? = some (some B') → ∃ B, h[b]? = some (some B)
theorem Sub.live {h h' : Hp} (hs : Sub h h') {M : List (Option Nat)} {g : Nat} (hl : Live M h' g) : Live M h g := by
  obtain ⟨b, B, hb, hm⟩ := hl
  obtain ⟨C, hc⟩ := hs b B hb
  exact ⟨b, C, hc, hm⟩
theorem Sub.xs {h h' : Hp} (hs : Sub h h') {A : Nat → Prop} {M : List (Option Nat)} {g : Nat} (hl : Xs A M h' g) : Xs A M h g := hl.elim .inl (fun k => .inr (hs.live k))
theorem Conv.same {h h' : Hp} (hs : Sub h h') {x : V} : Conv h h' x x := fun _ _ _ _ _ hv => hv.avoid (fun _ _ hx => hs.xs hx)
theorem Conv.any {h h' : Hp} {x : V} : Conv h h' x .any := fun _ _ _ _ _ _ => by unfold VR; trivial
theorem Convs.len {h h' : Hp} : ∀ {xs ys : List V}, Convs h h' xs ys → xs.length = ys.length
  | [], [], _ => rfl
  | _ :: _, _ :: _, k => by simp [Convs.len k.2]
  | [], _ :: _, k => k.elim
  | _ :: _, [], k => k.elim
theorem Convs.sound {h h' : Hp} {A : Nat → Prop} {M : List (Option Nat)} {w : World} (H : HR A M h w) : ∀ {xs ys : List V} {vs : List Value}, Convs h h' xs ys → VCells (Xs A M h) M w xs vs → VCells (Xs A M h') M w ys vs
  | [], [], vs, _, hv => by unfold VCells at *; exact hv
  | x :: xs, y :: ys, vs, k, hv => by
    unfold VCells at *
    obtain ⟨v, rest, e1, e2, e3⟩ := hv
    exact ⟨v, rest, e1, k.1 A M w v H e2, Convs.sound H k.2 e3⟩
  | [], _ :: _, _, k, _ => k.elim
  | _ :: _, [], _, k, _ => k.elim
theorem Convs.same {h h' : Hp} (hs : Sub h h') : ∀ {xs : List V}, Convs h h' xs xs
  | [] => trivial
  | _ :: _ => ⟨Conv.same hs, Convs.same hs⟩
theorem Convs.nil {h h' : Hp} : Convs h h' [] [] := trivial
theorem Convs.cons {h h' : Hp} {x y : V} {xs ys : List V} (a : Conv h h' x y) (k : Convs h h' xs ys) : Convs h h' (x :: xs) (y :: ys) := ⟨a, k⟩
theorem Conv.agg {h h' : Hp} {xs ys : List V} (k : Convs h h' xs ys) : Conv h h' (.agg xs) (.agg ys) := fun A M w v H hv => by
  unfold VR at *
  obtain ⟨vs, e, hc⟩ := hv
  exact ⟨vs, e, Convs.sound H k hc⟩
theorem Conv.tup {h h' : Hp} {xs ys : List V} (k : Convs h h' xs ys) : Conv h h' (.tup xs) (.tup ys) := fun A M w v H hv => by
  unfold VR at *
  obtain ⟨vs, e, hc⟩ := hv
  exact ⟨vs, e, Convs.sound H k hc⟩
def V.shut : V → Bool
  | .sc _ | .row _ _ _ | .eptr _ _ _ => true
  | _ => false
theorem VR.shut {X : Nat → Prop} {M : List (Option Nat)} {w : World} {x : V} {v : Value} (hx : x.shut = true) (h : VR X M w x v) : VR X [] w x v := by
  cases x <;> first | (unfold VR at *; exact h) | (simp [V.shut] at hx)
theorem all_mapE {α : Type} {p : V → Bool} {E : α → V} {l : List α} (h : ∀ x, p (E x) = true) : (l.map E).all p = true := by
  rw [List.all_eq_true]; intro y hy
  simp only [List.mem_map] at hy
  obtain ⟨x, _, rfl⟩ := hy
  exact h x
theorem one_okElem {x : V} (h : x.one = true) : x.okElem 1 = true := by
  have hc : x.cells = [x] := by cases x <;> first | rfl | simp [V.one] at h
  simp [V.okElem, V.flatOk, hc, h]
theorem VRow_cells {X : Nat → Prop} {w : World} {g : Nat} {cs : Array Value} {e : TypeId} {f : Nat × Nat} (hw : w.heap[g]? = some (.cells cs e f)) : ∀ (xs : List V) (i : Nat), (∀ c ∈ xs, c.one = true ∧ c.shut = true) → VCells X [] w xs ((cs.toList.drop i).take xs.length) → VRow X [] w 1 xs ⟨g, i, none⟩
  | [], i, _, _ => by unfold VRow; trivial
  | x :: xs, i, ho, hv => by
    unfold VCells at hv
    obtain ⟨v, rest, e1, e2, e3⟩ := hv
    have hi : i < cs.toList.length := by
      rcases Nat.lt_or_ge i cs.toList.length with hl | hl
      · exact hl
      · rw [List.drop_eq_nil_of_le hl] at e1; simp at e1
    rw [List.drop_eq_getElem_cons hi] at e1
    simp only [List.length_cons, List.take_succ_cons, List.cons.injEq] at e1
    obtain ⟨ev, er⟩ := e1
    have h1 := (ho x (by simp)).1
    have hcell : v.cells = #[v] := cells_of_oneCell (e2.oneCell h1)
    unfold VRow
    refine ⟨⟨v, e2, by rw [hcell]; rfl, ?_⟩, ?_⟩
    · rw [hcell]
      intro j u hu
      have hj : j = 0 := by have := (Array.getElem?_eq_some_iff.1 hu).1; simp at this; exact this
      subst hj
      simp at hu
      subst hu
      simp only [Addr.add, if_true]
      unfold World.cell?
      rw [hw]
      subst ev
      simp at hi
      simp [hi]
    · have : (⟨g, i, none⟩ : Addr).add 1 = ⟨g, i + 1, none⟩ := by simp [Addr.add]
      rw [this]
      exact VRow_cells hw xs (i + 1) (fun c hc => ho c (by simp [hc])) (by rw [er]; exact e3)
theorem Conv.row {h h' : Hp} (hs : Sub h h') {b n : Nat} {e : TypeId} {cs : List V} {ag : Bool} (hb : h[b]? = some (some ⟨e, cs⟩)) (hb' : h'[b]? = some none) (hsh : cs.all V.shut = true) (hn : n = cs.length) : Conv h h' (.sl b 0 n 1 ag) (.row none 1 cs) := by
  intro A M w v H hv
  obtain ⟨hone, hcase⟩ := H.blk b _ hb
  unfold VR at hv ⊢
  rcases hv with ⟨hm, rfl, h0, _⟩ | ⟨g, cap, e', sz, hm, rfl, h1, _, h3, hshp, _⟩
  · have : cs = [] := List.eq_nil_of_length_eq_zero (by omega)
    subst this
    exact ⟨none, 0, rfl, Nat.le_refl _, fun _ => rfl, (fun b hb => by cases hb), by simp, fun hne => absurd rfl hne⟩
  · rcases hcase with ⟨hm', _⟩ | ⟨g', arr, hm', hA, hw, hle, hcs⟩
    · rw [hm] at hm'; cases hm'
    · rw [hm] at hm'
      injection hm' with hm'
      injection hm' with hm'
      subst hm'
      obtain ⟨f, _, hw⟩ := hw.inCells hshp
      refine ⟨some ⟨g, 0, none⟩, cap, by rw [hn], by omega, fun hh => (by cases hh), (fun b hb => by cases hb), fun c hc => one_okElem (hone c hc), fun _ => ⟨⟨g, 0, none⟩, rfl, h3, ?_, rfl, ?_⟩⟩
      · rintro (ha | ⟨c, C, hc, hmc⟩)
        · exact hA ha
        · obtain ⟨C', hc'⟩ := hs c C hc
          have := H.inj c b C' _ g hc' hb hmc hm
          subst this
          rw [hb'] at hc; cases hc
      · refine VRow_cells hw cs 0 (fun c hc => ⟨hone c hc, List.all_eq_true.1 hsh c hc⟩) ?_
        rw [List.drop_zero]
        refine VCells.mk (by rw [List.length_take]; simp only [Array.length_toList]; dsimp only at hle; omega) (fun i c u hc hu => ?_)
        obtain ⟨u', hu', hr⟩ := hcs.get hc
        dsimp only at hu'
        rw [hu] at hu'
        injection hu' with hu'
        subst hu'
        exact (hr.shut (List.all_eq_true.1 hsh c (List.mem_of_getElem? hc))).avoid (fun _ _ hx => hs.xs hx)
def FCv (h h' : Hp) (fr : List (Nat × V)) : List (Nat × V) → Prop
  | [] => True
  | (t, y) :: r => (∃ x, look fr t = some x ∧ Conv h h' x y) ∧ FCv h h' fr r
theorem FCv.nil {h h' : Hp} {fr : List (Nat × V)} : FCv h h' fr [] := trivial
theorem FCv.cons {h h' : Hp} {fr r : List (Nat × V)} {t : Nat} {x y : V} (hl : look fr t = some x) (hc : Conv h h' x y) (k : FCv h h' fr r) : FCv h h' fr ((t, y) :: r) := ⟨⟨x, hl, hc⟩, k⟩
theorem FCv.get {h h' : Hp} {fr : List (Nat × V)} : ∀ {fr' : List (Nat × V)}, FCv h h' fr fr' → ∀ {t : Nat} {y : V}, look fr' t = some y → ∃ x, look fr t = some x ∧ Conv h h' x y
  | [], _, t, y, hy => by cases hy
  | (u, z) :: r, k, t, y, hy => by
    simp only [look] at hy
    cases hb : Nat.beq u t with
    | true =>
      rw [hb] at hy
      have := Nat.eq_of_beq_eq_true hb
      subst this
      simp only [cond_true, Option.some.injEq] at hy
      subst hy
      exact k.1
    | false => rw [hb] at hy; exact k.2.get hy
def HCv (H H' : Hp) : Hp → Hp → Prop
  | [], [] => True
  | _ :: h, none :: h' => HCv H H' h h'
  | some B :: h, some B' :: h' => (B.e = B'.e ∧ Convs H H' B.cells B'.cells ∧ B'.cells.all V.one = true) ∧ HCv H H' h h'
  | _, _ => False
theorem HCv.get {H H' : Hp} : ∀ {h h' : Hp}, HCv H H' h h' → ∀ {j : Nat} {B' : Blk}, h'[j]? = some (some B') → ∃ B, h[j]? = some (some B) ∧ B.e = B'.e ∧ Convs H H' B.cells B'.cells ∧ B'.cells.all V.one = true
  | [], [], _, j, B', hj => by simp at hj
  | _ :: h, none :: h', hh, j, B', hj => by
    cases j with
    | zero => simp at hj
    | succ j => simp only [List.getElem?_cons_succ] at hj ⊢; exact HCv.get (h := h) hh hj
  | some B :: h, some C :: h', hh, j, B', hj => by
    cases j with
    | zero =>
      simp only [List.getElem?_cons_zero, Option.some.injEq] at hj
      subst hj
      exact ⟨B, rfl, hh.1.1, hh.1.2.1, hh.1.2.2⟩
    | succ j => simp only [List.getElem?_cons_succ] at hj ⊢; exact HCv.get (h := h) hh.2 hj
  | [], _ :: _, hh, _, _, _ => hh.elim
  | _ :: _, [], hh, _, _, _ => by unfold HCv at hh; exact hh.elim
  | none :: _, some _ :: _, hh, _, _, _ => hh.elim
theorem HCv.len {H H' : Hp} : ∀ {h h' : Hp}, HCv H H' h h' → h.length = h'.length
  | [], [], _ => rfl
  | _ :: h, none :: h', hh => by simp [HCv.len (h := h) hh]
  | some B :: h, some C :: h', hh => by simp [HCv.len (h := h) hh.2]
  | [], _ :: _, hh => hh.elim
  | _ :: _, [], hh => by unfold HCv at hh; exact hh.elim
  | none :: _, some _ :: _, hh => hh.elim
theorem HCv.nil {H H' : Hp} : HCv H H' [] [] := trivial
theorem HCv.dead {H H' h h' : Hp} {o : Option Blk} (k : HCv H H' h h') : HCv H H' (o :: h) (none :: h') := by cases o <;> exact k
theorem HCv.live {H H' h h' : Hp} {e : TypeId} {cs cs' : List V} (hc : Convs H H' cs cs') (ho : cs'.all V.one = true) (k : HCv H H' h h') : HCv H H' (some ⟨e, cs⟩ :: h) (some ⟨e, cs'⟩ :: h') := ⟨⟨rfl, hc, ho⟩, k⟩
theorem Ghost.conv {N n : Nat} {fr fr' : List (Nat × V)} {h h' : Hp} (hf : FCv h h' fr fr') (hh : HCv h h' h h') : Ghost N (mkF n fr) h (mkF n fr') h' := by
  intro A M a w hN R
  have hs : Sub h h' := fun b B' hb => by obtain ⟨B, hB, _⟩ := hh.get hb; exact ⟨B, hB⟩
  refine ⟨M, rfl, ⟨⟨by rw [← hh.len]; exact R.hr.len, R.hr.alt, ?_, ?_, R.hr.glob.avoid fun g _ hx => hx.elim .inl (fun hl => .inr (hs.live hl))⟩, ?_, R.defers⟩, fun g hl => hs.live hl⟩
  · intro b B' hb
    obtain ⟨B, hB, he, hc, ho⟩ := hh.get hb
    refine ⟨List.all_eq_true.1 ho, ?_⟩
    have hl := hc.len
    rcases (R.hr.blk b B hB).2 with ⟨hn, hc0⟩ | ⟨g, cs, hg, hA, hw, hle, hcs⟩
    · exact .inl ⟨hn, List.eq_nil_of_length_eq_zero (by rw [← hl, hc0]; rfl)⟩
    · refine .inr ⟨g, cs, hg, hA, by rw [← he, ← hl]; exact hw, by rw [← hl]; exact hle, ?_⟩
      rw [← hl]
      exact Convs.sound R.hr hc hcs
  · intro b b' B B' g hb hb' hm hm'
    obtain ⟨C, hC, _⟩ := hh.get hb
    obtain ⟨C', hC', _⟩ := hh.get hb'
    exact R.hr.inj b b' C C' g hC hC' hm hm'
  · exact mkF_val R.sr (fun t y hy => by
      obtain ⟨x, hx, hl⟩ := hf.get hy
      exact ⟨x, hx, fun v hv => hl A M w v R.hr hv⟩)
def subB : Hp → Hp → Bool
  | _, [] => true
  | some _ :: h, some _ :: h' => subB h h'
  | _ :: h, none :: h' => subB h h'
  | _, _ => false
theorem subB_sub : ∀ {h h' : Hp}, subB h h' = true → Sub h h'
  | h, [], _, b, B', hb => by simp at hb
  | some B :: h, some C :: h', k, b, B', hb => by
    cases b with
    | zero => exact ⟨B, rfl⟩
    | succ b => simp only [List.getElem?_cons_succ] at hb ⊢; exact subB_sub (h := h) k b B' hb
  | o :: h, none :: h', k, b, B', hb => by
    cases b with
    | zero => simp at hb
    | succ b =>
      simp only [List.getElem?_cons_succ] at hb ⊢
      refine subB_sub (h := h) (h' := h') ?_ b B' hb
      cases o <;> exact k
  | none :: _, some _ :: _, k, _, _, _ => by cases k
  | [], o :: _, k, _, _, _ => by cases o <;> cases k
end Go.Vm
set_option linter.unusedSimpArgs false
set_option linter.unusedVariables false
namespace Go.Vm
open Go
def bytesOf (s : ByteArray) : List Int := s.data.toList.map fun b => (b.toNat : Int)
def stb (s : ByteArray) : Option (List Int) := if s.size ≤ lim then some (bytesOf s) else none
theorem bytesOf_len (s : ByteArray) : (bytesOf s).length = s.size := by unfold bytesOf; rw [List.length_map]; rfl
def sidx (s : ByteArray) (i : Int) : Option Int := if 0 ≤ i then (s[i.toNat]?).map (fun b => (b.toNat : Int)) else none
section
variable {P : Program} {N n : Nat} {ops : Array Oper} {l : List Oper} {fr : List (Nat × V)} {h h' : Hp} {K : List V → Hp → Prop}
theorem ixT {t : TypeId} {s : ByteArray} {k : IntKind} {j v : Int} {sz by_ : Nat} {z : Value} (ht : tiOf P t = some ⟨.string, sz, by_, z⟩) (hx : sidx s j = some v) : indexV P t (.sc (.string s)) (.sc (.int k j)) = some (.sc (.int .u8 v)) := by
  unfold sidx at hx
  split at hx
  · rename_i h0
    simp only [Option.map_eq_some_iff] at hx
    obtain ⟨b, hb, rfl⟩ := hx
    simp [indexV, ht, asIdx, h0, hb]
  · cases hx
theorem OpsW.does {o : Oper} {v : V} {s : List V} (hw : wantedV ops o s = some true) (hD : ∀ (A : Nat → Prop) (M : List (Option Nat)) (a : Act) (w : World), HR A M h w → SR (Xs A M h) M w s a → Does P o a w A M h v h')
    (hk : OpsW P N ops l (putV s o.dst v) h' K) : OpsW P N ops (o :: l) s h K := fun k hl A M0 M h0 w0 a w Q hN hM G R hQ => by
  have h0' : ops[k]? = some o := by simpa using (hl 0).symm
  simp only [List.length_cons, List.range'_succ]
  rw [wpOps_cons]
  unfold wpOp
  rw [h0']
  simp only
  rw [wanted_sound R.sr hw, if_pos rfl]
  refine .inl (hD A M a w R.hr R.sr _ _ fun v' w' M' G' hv => ?_)
  exact hk (k + 1) (fun j => by have := hl (j + 1); simpa [Nat.add_assoc, Nat.add_comm 1 j] using this) A M0 M' h0 w0 _ w' Q hN hM (G.trans G') ⟨G'.hr, (SR.keep G' R.sr).put o.dst hv, by rw [put_defers]; exact R.defers⟩ hQ
theorem bytesOf_cells {X : Nat → Prop} {M : List (Option Nat)} {w : World} (s : ByteArray) : VCells X M w ((bytesOf s).map (eI .u8)) (s.data.toList.map fun b => Value.int .u8 b.toNat) := by
  refine VCells.mk (by simp [bytesOf]) (fun i c v hc hv => ?_)
  simp only [bytesOf, List.map_map, List.getElem?_map, Option.map_eq_some_iff] at hc hv
  obtain ⟨b, hb, rfl⟩ := hc
  obtain ⟨b', hb', rfl⟩ := hv
  rw [hb] at hb'
  injection hb' with hb'
  subst hb'
  unfold VR; rfl
theorem wStr {t : Nat} {a b e : TypeId} {x : Operand} {s : ByteArray} {r : List Int} {i : Nat} {s1 b1 s2 b2 s3 b3 : Nat} {z1 z2 z3 : Value} {ty : TypeId} {pos : String} {aft : Array Edge} (hx : evF n fr x = some (.sc (.string s)))
    (ha : tiOf P a = some ⟨.string, s1, b1, z1⟩) (hb : tiOf P b = some ⟨.slice e, s2, b2, z2⟩) (he : tiOf P e = some ⟨.int .u8, s3, b3, z3⟩) (hs : stb s = some r) (hl : h.length = i) (hh : h ++ [some ⟨e, r.map (eI .u8)⟩] = h')
    (k : OpsW P N ops l (mkF n ((t, .sl i 0 r.length 1 false) :: fr)) h' K) : OpsW P N ops (⟨some t, .convert a b x, ty, pos, aft, none⟩ :: l) (mkF n fr) h K := by
  subst hl hh
  unfold stb at hs
  split at hs
  · rename_i hsz
    injection hs with hs
    subst hs
    refine OpsW.does (v := .sl h.length 0 (bytesOf s).length 1 false) rfl ?_ (by dsimp only; rw [putF]; exact k)
    intro A M ac w H S
    have hev : ac.eval x = .string s := by have := ev_sound H.glob S (evF_ev hx); unfold VR at this; exact this
    have hge := grownCap_ge w s.size 0 e
    have hcm : grownCap w s.size 0 e ≤ maxLen := grownCap_le_maxLen w s.size 0 e (by unfold lim at hsz; simp only [maxLen]; omega)
    have hrow : (bytesRow s (grownCap w s.size 0 e)).size = grownCap w s.size 0 e := by
      simp only [bytesRow, Array.size_append, Array.size_map, Array.size_replicate]
      show s.size + _ = _
      omega
    have Gd := Grow.drew H
    have G := Gd.trans (Grow.allocF Gd.hr e ((bytesOf s).map (eI .u8)) (bytesRow s (grownCap w s.size 0 e)) (by rw [hrow, List.length_map, bytesOf_len]; exact hge) (by
      have : (bytesRow s (grownCap w s.size 0 e)).toList.take ((bytesOf s).map (eI .u8)).length = s.data.toList.map fun b => Value.int .u8 b.toNat := by
        simp only [bytesRow, Array.toList_append, Array.toList_map]
        rw [show ((bytesOf s).map (eI .u8)).length = (s.data.toList.map fun b => Value.int .u8 b.toNat).length by simp [bytesOf]]
        exact List.take_left
      rw [this]
      exact bytesOf_cells s) (fun c hc => by
        simp only [List.mem_map] at hc
        obtain ⟨y, _, rfl⟩ := hc
        rfl) _ (.inr rfl))
    refine Does.value (sem := convert a b (.string s)) (by simp [execOp, hev]) ⟨_, _, _, run_bytes_of_string w a b e s (tiOf_spec ha).1 (tiOf_spec hb).1 (tiOf_spec he).1, G, ?_⟩
    unfold VR
    refine .inr ⟨w.heap.size, grownCap w s.size 0 e, e, grownCap w s.size 0 e, by rw [← H.len]; simp, by rw [bytesOf_len], by rw [bytesOf_len]; exact hge, hcm, by omega, ?_, by omega⟩
    unfold World.shape?
    rw [show (w.drew.alloc (.cells (bytesRow s (grownCap w s.size 0 e)) e ((bytesRow s (grownCap w s.size 0 e)).size, (bytesRow s (grownCap w s.size 0 e)).size + 1))).heap[w.heap.size]? = some (.cells (bytesRow s (grownCap w s.size 0 e)) e ((bytesRow s (grownCap w s.size 0 e)).size, (bytesRow s (grownCap w s.size 0 e)).size + 1)) from heap_alloc_new w.drew _]
    simp only [hrow]
  · cases hs
end
end Go.Vm
set_option linter.unusedSimpArgs false
set_option linter.unusedVariables false
namespace Go.Vm
open Go
def arr {α : Type} (n : Nat) (l : List α) : Option (List α) := if l.length = n then some l else none
def aix {α : Type} (n : Nat) (l : List α) (i : Int) : Option α := if i < n then idx l i else none
def arp {α : Type} (n : Nat) (l : List α) : Option (List α) := if n ≤ l.length then some (l.take n) else none
def cat (a b : ByteArray) : Option ByteArray := if a.size + b.size ≤ lim then some (a ++ b) else none
def ssub (s : ByteArray) (a b : Int) : Option ByteArray := if 0 ≤ a ∧ a ≤ b ∧ b ≤ s.size then some (s.extract a.toNat b.toNat) else none
theorem arr_len {α : Type} {n : Nat} {l m : List α} (h : arr n l = some m) : l.length = n := by
  unfold arr at h; split at h
  · assumption
  · cases h
theorem arp_len {α : Type} {n : Nat} {l m : List α} (h : arp n l = some m) : m.length = n := by
  unfold arp at h; split at h
  · injection h with h; subst h; simp; omega
  · cases h
theorem aix_idx {α : Type} {n : Nat} {l : List α} {i : Int} {y : α} (h : aix n l i = some y) : idx l i = some y := by
  unfold aix at h; split at h
  · exact h
  · cases h
theorem aix_lt {α : Type} {n : Nat} {l : List α} {i : Int} {y : α} (h : aix n l i = some y) : i < n := by
  unfold aix at h; split at h
  · assumption
  · cases h
section
variable {P : Program} {h h' : Hp} {t e : TypeId} {ti : TI} {i off b N : Nat} {v : V} {α : Type} {E : α → V} {l m : List α} {y : α} {k : IntKind} {j : Int} {sz by_ : Nat} {z : Value} {ag : Bool}
theorem iaB (ht : tiOf P t = some ⟨.array N e, sz, by_, z⟩) (he : tiOf P e = some ti) (h1 : ti.size = 1) (hx : aix N l j = some y) : indexAtV P t (.ptr b 0) (.sc (.int k j)) = some (.ptr b j.toNat) := by
  obtain ⟨h2, h3, _⟩ := idx_some (aix_idx hx)
  simp [indexAtV, ht, asIdx, he, h1, h2, aix_lt hx]
theorem iaG {es : List V} (ht : tiOf P t = some ⟨.array N e, sz, by_, z⟩) (he : tiOf P e = some ti) (h1 : ti.size = 1) (hx : aix N l j = some y) : indexAtV P t (.eptr es 0 0) (.sc (.int k j)) = some (.eptr es 0 j.toNat) := by
  obtain ⟨h2, h3, _⟩ := idx_some (aix_idx hx)
  simp [indexAtV, ht, asIdx, he, h1, h2, aix_lt hx]
theorem ixA (ht : tiOf P t = some ⟨.array N e, sz, by_, z⟩) (he : tiOf P e = some ti) (h1 : ti.size = 1) (hd : isAggD ti.desc = false) (hx : aix N l j = some y) : indexV P t (.agg (l.map E)) (.sc (.int k j)) = some (E y) := by
  obtain ⟨h2, h3, h4⟩ := idx_some (aix_idx hx)
  simp [indexV, ht, asIdx, he, h1, h2, aix_lt hx, partV, hd, h4]
theorem ldG (ht : tiOf P t = some ti) (hd : isAggD ti.desc = false) (hx : idx l j = some y) : loadV P t h (.eptr [.agg (l.map E)] 0 j.toNat) = some (E y) := by
  obtain ⟨_, _, h3⟩ := idx_some hx
  simp [loadV, V.cells, partV, ht, hd, h3]
theorem ldA (ht : tiOf P t = some ⟨.array N e, sz, by_, z⟩) (hsz : sz = N) (hb : h[b]? = some (some ⟨i, l.map E⟩)) (hl : l.length = N) : loadV P t h (.ptr b 0) = some (.agg (l.map E)) := by
  subst hsz
  simp only [loadV, hb, partV, ht, isAggD, if_true, List.drop_zero, List.length_map]
  rw [if_pos (by omega), List.take_of_length_le (by simp; omega)]
theorem ldAE (ht : tiOf P t = some ⟨.array N e, sz, by_, z⟩) (hsz : sz = N) (hl : l.length = N) : loadV P t h (.eptr [.agg (l.map E)] 0 0) = some (.agg (l.map E)) := by
  subst hsz
  simp only [loadV, List.getElem?_cons_zero, V.cells, partV, ht, isAggD, if_true, List.drop_zero, List.length_map]
  rw [if_pos (by omega), List.take_of_length_le (by simp; omega)]
theorem stA (ht : tiOf P t = some ⟨.array N e, sz, by_, z⟩) (hsz : sz = N) (hb : h[b]? = some (some ⟨i, l.map E⟩)) (hE : ∀ x, (E x).one = true) (hl : l.length = N) (hm : m.length = N) (hh : h.set b (some ⟨i, m.map E⟩) = h') : storeV P t h (.ptr b 0) (.agg (m.map E)) = some h' := by
  subst hh hsz
  simp only [storeV, ht, hb]
  rw [if_pos ⟨by simp [V.flatOk, V.cells, hE], by simp [V.cells, hm], by simp [hl]⟩]
  congr 4
  unfold splice
  simp only [V.cells, List.take_zero, List.nil_append, Nat.zero_add, List.length_map]
  rw [List.drop_eq_nil_of_le (by simp; omega), List.append_nil]
theorem slA (ht : tiOf P t = some ⟨.array N e, sz, by_, z⟩) (he : tiOf P e = some ti) (h1 : ti.size = 1) (hag : isAggD ti.desc = ag) (hb : h[b]? = some (some ⟨i, l.map E⟩)) (hl : l.length = N) (hN : 0 < N ∧ N ≤ lim) : sliceV P t h (.ptr b 0) none none = some (.sl b 0 N 1 ag) := by
  subst hag
  simp only [sliceV, ht, he, asLo, asHi, hb]
  rw [if_pos ⟨by omega, hN.2, Int.le_refl _, by omega, Int.le_refl _, by simp [h1, hl]⟩]
  simp [h1]
theorem slT {s r : ByteArray} {lo hi : Option V} {a c : Int} (ht : tiOf P t = some ⟨.string, sz, by_, z⟩) (h1 : asLo lo = some a) (h2 : asHi hi s.size = some c) (hs : ssub s a c = some r) : sliceV P t h (.sc (.string s)) lo hi = some (.sc (.string r)) := by
  unfold ssub at hs
  split at hs
  · rename_i hc
    injection hs with hs
    subst hs
    simp only [sliceV, ht, h1, h2]
    rw [if_pos hc]
  · cases hs
theorem apR {nl : Option Bool} (ht : tiOf P t = some ⟨.array N e, sz, by_, z⟩) (hE : ∀ x, (E x).one = true) (hN : 0 < N) (hx : arp N l = some m) : arrPV P t (.row nl 1 (l.map E)) = some (.eptr [.agg (m.map E)] 0 0) := by
  unfold arp at hx
  split at hx
  · injection hx with hx
    subst hx
    simp only [arrPV, ht]
    rw [if_pos ⟨trivial, hN, by simpa using by assumption, by simp [hE]⟩, List.map_take]
  · cases hx
end
section
variable {P : Program} {O : Orc} {n : Nat} {fr : List (Nat × V)} {h h' : Hp} {ty : TypeId} {pos : String} {aft : Array Edge} {d : Option Tmp} {g : Option (Nat × Bool)} {x : Operand} {a v : V}
theorem d_sap {t : TypeId} (hx : evF n fr x = some a) (hv : arrPV P t a = some v) : absOp P O ⟨d, .sliceToArrayPointer t x, ty, pos, aft, g⟩ (mkF n fr) h = some (v, h) := by simp [absOp, evF_ev hx, hv]
end
theorem V.le_arr {α : Type} {E : α → V} {f : Nat → Nat} {vn : Nat → Bool} {l : List α} (hE : ∀ x, (E x).rn f = E x) : V.le vn (.agg (l.map E)) ((V.agg (l.map E)).rn f) := by
  have : (V.agg (l.map E)).rn f = V.agg (l.map E) := by simp only [V.rn, rns_map hE]
  rw [this]; exact V.le_refl _ _
theorem rfs_eI {k : IntKind} (l : List Int) : V.rfs (l.map (eI k)) = true := rfs_map (fun _ => rfl) l
theorem rfs_eB (l : List Bool) : V.rfs (l.map eB) = true := rfs_map (fun _ => rfl) l
abbrev eA {α : Type} (E : α → V) (l : List α) : V := .agg (l.map E)
theorem flatA {α : Type} {E : α → V} {l : List α} (h : ∀ x, (E x).one = true) : (V.agg (l.map E)).flatOk = true := by simp [V.flatOk, V.cells, h]
theorem ldRA {P : Program} {h : Hp} {t e : TypeId} {N sz by_ : Nat} {z : Value} {α : Type} {E : α → V} {l : List (List α)} {y : List α} {j : Int} (ht : tiOf P t = some ⟨.array N e, sz, by_, z⟩) (hsz : sz = N) (hx : idx l j = some y) (hl : y.length = N) : loadV P t h (.eptr (l.map (eA E)) j.toNat 0) = some (.agg (y.map E)) := by
  subst hsz
  obtain ⟨_, _, h3⟩ := idx_some hx
  simp only [loadV, List.getElem?_map, h3, Option.map_some, V.cells, partV, ht, isAggD, if_true, List.drop_zero, List.length_map]
  rw [if_pos (by omega), List.take_of_length_le (by simp; omega)]
section
variable {P : Program} (t : TypeId) (xo yo : Operand)
theorem bin_cat {a b r : ByteArray} (h : cat a b = some r) : binV P .add t xo yo (.sc (.string a)) (.sc (.string b)) = some (.sc (.string r)) := by
  unfold cat at h
  split at h
  · rename_i hl
    injection h with h
    subst h
    have hm : ¬ (((a.size + b.size : Nat) : Int) > IntKind.i64.max) := by
      unfold lim at hl
      have : IntKind.i64.max = 9223372036854775807 := by decide
      rw [this]; omega
    simp only [binV, toVal, cellVal, pureV]
    have : evalPure P (do eqGuard .add t xo yo (.string a) (.string b); binOp .add t (.string a) (.string b)) = some (.string (a ++ b)) := by
      show evalPure P (Op.stringOp .add a b) = _
      unfold Op.stringOp
      simp only
      rw [if_neg hm]
      rfl
    exact congrArg (Option.map ofValue) this
  · cases h
theorem evalPure_bind {α β : Type} (s : Sem α) (f : α → Sem β) {a : α} (h : evalPure P s = some a) : evalPure P (s >>= f) = evalPure P (f a) := by
  show evalPure P (Sem.bind s f) = _
  induction s with
  | pure x => simp only [evalPure, Option.some.injEq] at h; subst h; rfl
  | program k ih => exact ih P h
  | mark m k ih => exact ih h
  | _ => simp [evalPure] at h
theorem evalPure_underlying {t : TypeId} {ti : TI} (ht : tiOf P t = some ti) : evalPure P (underlying t) = some ti.desc := by
  have h1 := (tiOf_spec ht).1
  show evalPure P (match P.underlying t with | some d => pure d | none => stuck "no such type") = _
  rw [h1]; rfl
end
section
variable {P : Program}
theorem evalPure_sizeOf {t : TypeId} {ti : TI} (ht : tiOf P t = some ti) : evalPure P (sizeOf t) = some ti.size := by
  obtain ⟨_, i, h1, h2, _⟩ := tiOf_spec ht
  have : evalPure P (typeInfo t) = some i := by
    show evalPure P (match P.info? t with | some i => pure i | none => stuck "no such type") = _
    rw [h1]; rfl
  unfold sizeOf
  rw [evalPure_bind _ _ this, ← h2]; rfl
theorem evalPure_part {t : TypeId} {ti : TI} (ht : tiOf P t = some ti) (hd : isAggD ti.desc = false) {cs : Array Value} {off : Nat} {v : Value} (hv : cs[off]? = some v) : evalPure P (part t cs off) = some v := by
  unfold part
  have hu := evalPure_underlying ht
  have h1 : evalPure P (isAgg t) = some false := by
    unfold isAgg
    rw [evalPure_bind _ _ hu]
    cases hh : ti.desc <;> first | rfl | (rw [hh] at hd; simp [isAggD] at hd)
  rw [evalPure_bind _ _ h1]
  simp only [Bool.false_eq_true, if_false, hv]
  rfl
theorem equal_int {t : TypeId} {k k' : IntKind} {sz by_ : Nat} {z : Value} (ht : tiOf P t = some ⟨.int k', sz, by_, z⟩) (d : Nat) (a b : Int) : evalPure P (Op.equalIn (d + 1) t (.int k a) (.int k b)) = some (a == b) := by
  rw [Op.equalIn, evalPure_bind _ _ (evalPure_underlying ht)]
  simp only [if_true]
  rfl
theorem equal_arr {t e : TypeId} {k k' : IntKind} {N sz by_ sz' by' : Nat} {z z' : Value} (ht : tiOf P t = some ⟨.array N e, sz, by_, z⟩) (he : tiOf P e = some ⟨.int k', sz', by', z'⟩) (h1 : sz' = 1) {l m : List Int} (hl : l.length = N) (hm : m.length = N) (d : Nat) :
    evalPure P (Op.equalIn (d + 2) t (.agg (l.map (Value.int k)).toArray) (.agg (m.map (Value.int k)).toArray)) = some (l == m) := by
  subst h1
  rw [Op.equalIn, evalPure_bind _ _ (evalPure_underlying ht)]
  simp only
  rw [evalPure_bind _ _ (evalPure_sizeOf he)]
  simp only [Std.Legacy.Range.forIn_eq_forIn_range', Std.Legacy.Range.size, Nat.sub_zero, Nat.add_one_sub_one, Nat.div_one]
  have key : ∀ (c i : Nat), i + c = N → l.take i = m.take i → evalPure P (do
      let r ← forIn (List.range' i c 1) ((none, ()) : Option Bool × Unit) fun i r => do
        let a ← part e (l.map (Value.int k)).toArray (i * 1)
        let b ← part e (m.map (Value.int k)).toArray (i * 1)
        let q ← Op.equalIn (d + 1) e a b
        if (!q) = true then pure (ForInStep.done (some false, ())) else pure (ForInStep.yield (none, ()))
      match r.fst with
      | some a => pure a
      | none => pure true) = some (l == m) := by
    intro c
    induction c with
    | zero =>
      intro i hi hp
      have : l = m := by
        rw [List.take_of_length_le (by omega), List.take_of_length_le (by omega)] at hp
        exact hp
      subst this
      simp only [List.range'_zero, List.forIn_nil]
      show some true = _
      simp
    | succ c ih =>
      intro i hi hp
      have hil : i < l.length := by omega
      have him : i < m.length := by omega
      simp only [List.range'_succ, List.forIn_cons, bind_assoc]
      rw [evalPure_bind _ _ (evalPure_part he rfl (v := .int k l[i]) (by simp [hil])), evalPure_bind _ _ (evalPure_part he rfl (v := .int k m[i]) (by simp [him])), evalPure_bind _ _ (equal_int he d _ _)]
      by_cases hq : l[i] = m[i]
      · have := ih (i + 1) (by omega) (by rw [List.take_succ_eq_append_getElem hil, List.take_succ_eq_append_getElem him, hp, hq])
        simpa [hq] using this
      · have hne : l ≠ m := by rintro rfl; exact hq rfl
        have : (l == m) = false := by simpa using hne
        rw [this]
        have hq' : (l[i] == m[i]) = false := by simpa using hq
        rw [hq']
        rfl
  refine Eq.trans (congrArg (evalPure P) ?_) (key N 0 (by omega) (by simp))
  refine congr (congrArg bind ?_) (funext fun r => ?_)
  · rfl
  · obtain ⟨r, _⟩ := r
    cases r <;> rfl
variable (t : TypeId) (xo yo : Operand)
theorem toVal_ints (k : IntKind) (l : List Int) : toVal (.agg (l.map (eI k))) = some (.agg (l.map (Value.int k)).toArray) := by
  have : (l.map (eI k)).mapM cellVal = some (l.map (Value.int k)) := by
    induction l with
    | nil => rfl
    | cons x l ih => simp only [List.map_cons, List.mapM_cons, ih]; rfl
  simp only [toVal, this, Option.map_some]
theorem guard_arr {e : TypeId} {k' : IntKind} {N sz by_ sz' by' : Nat} {z z' : Value} {t : TypeId} (ht : tiOf P t = some ⟨.array N e, sz, by_, z⟩) (he : tiOf P e = some ⟨.int k', sz', by', z'⟩) (hd : 2 ≤ P.depth) {bo : BinOp} (hbo : bo = .eql ∨ bo = .neq) (a b : Array Value) : evalPure P (eqGuard bo t xo yo (.agg a) (.agg b)) = some () := by
  unfold eqGuard
  have hg : P.eqGuardType P.depth t = false := by
    obtain ⟨q, hq⟩ : ∃ q, P.depth = q + 2 := ⟨P.depth - 2, by omega⟩
    rw [hq]
    simp only [Program.eqGuardType, (tiOf_spec ht).1, (tiOf_spec he).1]
  rcases hbo with rfl | rfl <;>
  · show evalPure P (if (!P.eqGuardType P.depth t) = true then pure () else _) = some ()
    rw [hg]; rfl
theorem bin_eqlA {e : TypeId} {k k' : IntKind} {N sz by_ sz' by' : Nat} {z z' : Value} {t : TypeId} (ht : tiOf P t = some ⟨.array N e, sz, by_, z⟩) (he : tiOf P e = some ⟨.int k', sz', by', z'⟩) (h1 : sz' = 1) (hd : 2 ≤ P.depth) {l m : List Int} (hl : l.length = N) (hm : m.length = N) :
    binV P .eql t xo yo (.agg (l.map (eI k))) (.agg (m.map (eI k))) = some (.sc (.bool (l == m))) := by
  simp only [binV, toVal_ints, pureV]
  rw [evalPure_bind _ _ (guard_arr xo yo ht he hd (.inl rfl) _ _)]
  have : evalPure P (binOp .eql t (.agg (l.map (Value.int k)).toArray) (.agg (m.map (Value.int k)).toArray)) = some (.bool (l == m)) := evalPure_map _ _ (equal_arr ht he h1 hl hm 9998)
  rw [this]; rfl
theorem bin_neqA {e : TypeId} {k k' : IntKind} {N sz by_ sz' by' : Nat} {z z' : Value} {t : TypeId} (ht : tiOf P t = some ⟨.array N e, sz, by_, z⟩) (he : tiOf P e = some ⟨.int k', sz', by', z'⟩) (h1 : sz' = 1) (hd : 2 ≤ P.depth) {l m : List Int} (hl : l.length = N) (hm : m.length = N) :
    binV P .neq t xo yo (.agg (l.map (eI k))) (.agg (m.map (eI k))) = some (.sc (.bool (!(l == m)))) := by
  simp only [binV, toVal_ints, pureV]
  rw [evalPure_bind _ _ (guard_arr xo yo ht he hd (.inr rfl) _ _)]
  have : evalPure P (binOp .neq t (.agg (l.map (Value.int k)).toArray) (.agg (m.map (Value.int k)).toArray)) = some (.bool (!(l == m))) := evalPure_map _ (fun b => Value.bool !b) (equal_arr ht he h1 hl hm 9998)
  rw [this]; rfl
end
end Go.Vm
set_option linter.unusedSimpArgs false
set_option linter.unusedVariables false
namespace Go.Vm
open Go
theorem fn_ext {P : Program} {f : FuncId} {fn : Func} {args : List V} {r : V} {h : Hp} {e : Array Value → Sem Value} (hf : P.funcs[f]? = some fn) (hn : (fn.name == "runtime.NumGoroutine") = false) (hb : fn.body.isNone = true) (h1 : Extern.findNext fn = none) (h2 : Extern.find fn = some e)
    (he : ∀ (X : Nat → Prop) (M : List (Option Nat)) (w : World) (vs : List Value), VCells X M w args vs → ∃ v, (e vs.toArray).run P w = .ok v w ∧ VR X M w r v) : Fn P f h args r h := by
  intro A M w vs H hargs
  obtain ⟨v, hv, hr⟩ := he _ _ _ _ hargs
  refine .inr ⟨v, w, ?_, M, Grow.refl H, hr⟩
  have e1 : (callFunc f vs.toArray).run P w = ((e vs.toArray).run P w).andThen fun v w => .ok (.value v) w := by
    unfold callFunc
    show Sem.run P (match P.funcs[f]? with | none => _ | some fn => _) w = _
    rw [hf]
    simp only [hn, Bool.false_eq_true, if_false, hb, if_true, h1, h2]
    show Sem.run P (Sem.bind (e vs.toArray) _) w = _
    exact Sem.run_bind ..
  rw [e1, hv]
  rfl
def ixb (s : ByteArray) (c : Int) : Int := match (List.range s.size).find? (fun i => s[i]! == c.toNat.toUInt8) with
  | some i => i
  | none => -1
theorem fn_ixb {P : Program} {f : FuncId} {fn : Func} (hf : P.funcs[f]? = some fn) (hn : (fn.name == "runtime.NumGoroutine") = false) (hb : fn.body.isNone = true) (h1 : Extern.findNext fn = none) (h2 : Extern.find fn = some Extern.BytealgIndexByte.indexByte) (s : ByteArray) (c : Int) : Fn P f [] [eS s, eI .u8 c] (eI .i64 (ixb s c)) [] := by
  refine fn_ext hf hn hb h1 h2 fun X M w vs hv => ?_
  unfold VCells at hv
  obtain ⟨v, rest, rfl, hv, hr⟩ := hv
  unfold VCells at hr
  obtain ⟨u, rest, rfl, hu, hr⟩ := hr
  unfold VCells at hr
  subst hr
  unfold VR at hv hu
  subst hv hu
  refine ⟨.int .i64 (ixb s c), ?_, by unfold VR; rfl⟩
  show Sem.run P (match (List.range s.size).find? (fun i => s[i]! == c.toNat.toUInt8) with | some i => pure (goInt i) | none => pure (goInt (-1))) w = _
  unfold ixb
  cases (List.range s.size).find? (fun i => s[i]! == c.toNat.toUInt8) <;> rfl
end Go.Vm
set_option linter.unusedSimpArgs false
set_option linter.unusedVariables false
namespace Go.Vm
open Go
section
variable {α : Type} {C : α → List V} {K : Nat}
theorem flat_len (hC : ∀ x, (C x).length = K) : ∀ l : List α, (l.flatMap C).length = l.length * K
  | [] => by simp
  | x :: l => by simp only [List.flatMap_cons, List.length_append, hC, flat_len hC l, List.length_cons, Nat.add_mul, Nat.one_mul]; omega
theorem flat_drop (hC : ∀ x, (C x).length = K) : ∀ (l : List α) (i : Nat), (l.flatMap C).drop (i * K) = (l.drop i).flatMap C
  | l, 0 => by simp
  | [], i + 1 => by simp
  | x :: l, i + 1 => by
    rw [List.flatMap_cons, List.drop_succ_cons, ← flat_drop hC l i, Nat.add_mul, Nat.one_mul, List.drop_append, List.drop_eq_nil_of_le (by rw [hC]; omega), List.nil_append, hC]
    congr 1; omega
theorem flat_take (hC : ∀ x, (C x).length = K) : ∀ (l : List α) (i : Nat), (l.flatMap C).take (i * K) = (l.take i).flatMap C
  | l, 0 => by simp
  | [], i + 1 => by simp
  | x :: l, i + 1 => by
    rw [List.flatMap_cons, List.take_succ_cons, List.flatMap_cons, ← flat_take hC l i, Nat.add_mul, Nat.one_mul, List.take_append, List.take_of_length_le (by rw [hC]; omega), hC]
    congr 2; omega
theorem flat_chunks (hC : ∀ x, (C x).length = K) (l : List α) : chunks true K l.length (l.flatMap C) = l.map fun x => V.agg (C x) := by
  unfold chunks
  rw [if_pos rfl]
  apply List.ext_getElem
  · simp
  · intro i h1 h2
    simp only [List.length_map] at h2
    simp only [List.getElem_map, List.getElem_range]
    rw [flat_drop hC, List.drop_eq_getElem_cons h2, List.flatMap_cons, List.take_append, List.take_of_length_le (by rw [hC]; exact Nat.le_refl _), hC, Nat.sub_self, List.take_zero, List.append_nil]
theorem all_flat {p : V → Bool} (h : ∀ x, (C x).all p = true) (l : List α) : (l.flatMap C).all p = true := by
  rw [List.all_eq_true]; intro y hy
  simp only [List.mem_flatMap] at hy
  obtain ⟨x, _, hy⟩ := hy
  exact List.all_eq_true.1 (h x) y hy
theorem rns_app {f : Nat → Nat} : ∀ (a b : List V), V.rns f (a ++ b) = V.rns f a ++ V.rns f b
  | [], b => by simp [V.rns]
  | x :: a, b => by simp [V.rns, rns_app a b]
theorem rns_flat {f : Nat → Nat} (h : ∀ x, V.rns f (C x) = C x) : ∀ l : List α, V.rns f (l.flatMap C) = l.flatMap C
  | [] => by simp [V.rns]
  | x :: l => by rw [List.flatMap_cons, rns_app, h, rns_flat h l]
theorem les_flat {f : Nat → Nat} {vn : Nat → Bool} (h : ∀ x, V.rns f (C x) = C x) (l : List α) : V.les vn (l.flatMap C) (V.rns f (l.flatMap C)) := by rw [rns_flat h]; exact V.les_refl _ _
theorem rfs_app : ∀ (a b : List V), V.rfs (a ++ b) = (V.rfs a && V.rfs b)
  | [], b => by simp [V.rfs]
  | x :: a, b => by simp [V.rfs, rfs_app a b, Bool.and_assoc]
theorem rfs_flat (h : ∀ x, V.rfs (C x) = true) : ∀ l : List α, V.rfs (l.flatMap C) = true
  | [] => by simp [V.rfs]
  | x :: l => by rw [List.flatMap_cons, rfs_app, h, rfs_flat h l]; rfl
theorem mapM_app {F : V → Option V} {a b a' b' : List V} (h1 : a.mapM F = some a') (h2 : b.mapM F = some b') : (a ++ b).mapM F = some (a' ++ b') := by
  rw [List.mapM_append, h1, h2]; rfl
theorem mapM_flat {F : V → Option V} (h : ∀ x, (C x).mapM F = some (C x)) : ∀ l : List α, (l.flatMap C).mapM F = some (l.flatMap C)
  | [] => rfl
  | x :: l => by rw [List.flatMap_cons]; exact mapM_app (h x) (mapM_flat h l)
variable {P : Program} {h h' : Hp} {t e : TypeId} {ti : TI} {b i off : Nat} {l m : List α} {y : α} {kk : IntKind} {j : Int} {nl : Option Bool} {sz by_ : Nat} {z : Value} {v : V}
theorem exp_slK {hE : Hp} {q d : Nat} (hC : ∀ x, (C x).length = K) (hK : 0 < K) (hn : l.length = q) (hb : hE[b]? = some (some ⟨e, l.flatMap C⟩)) (hx : ∀ x, (C x).mapM (expCell hE d) = some (C x)) : expCell hE (d + 1) (.sl b 0 q K true) = some (.row none K (l.map fun x => V.agg (C x))) := by
  subst hn
  simp only [expCell, hb]
  rw [if_pos ⟨by rw [flat_len hC]; omega, hK, .inl trivial⟩]
  simp only [List.drop_zero]
  rw [List.take_of_length_le (by rw [flat_len hC]; exact Nat.le_refl _), mapM_flat hx]
  simp only [Option.map_some, flat_chunks hC]
theorem exp_slKT {hE : Hp} {q : Nat} (hC : ∀ x, (C x).length = K) (hK : 0 < K) (hn : l.length = q) (hb : hE[b]? = some (some ⟨e, l.flatMap C⟩)) (hx : ∀ x, (C x).mapM (expCell hE 3) = some (C x)) : expTop hE (.sl b 0 q K true) = some (.row none K (l.map fun x => V.agg (C x))) := exp_slK hC hK hn hb hx
theorem srcRK : srcV h K (.row nl K (m.map fun x => V.agg (C x))) = some (m.flatMap C, m.length) := by
  have : (m.map fun x => V.agg (C x)).flatMap V.cells = m.flatMap C := by rw [List.flatMap_map]; rfl
  simp only [srcV]
  rw [if_pos (.inl trivial), this]; simp
theorem srcSK {q : Nat} (hC : ∀ x, (C x).length = K) (hn : m.length = q) (hb : h[b]? = some (some ⟨e, m.flatMap C⟩)) : srcV h K (.sl b 0 q K true) = some (m.flatMap C, m.length) := by
  subst hn
  simp only [srcV, hb]
  rw [if_pos ⟨trivial, by rw [flat_len hC]; omega⟩, List.drop_zero, List.take_of_length_le (by rw [flat_len hC]; exact Nat.le_refl _)]
theorem srcNK {k : Nat} : srcV h K (.row nl k []) = some (([] : List α).flatMap C, ([] : List α).length) := by simp [srcV]
theorem appSK {q : Nat} (hC : ∀ x, (C x).length = K) (hn : l.length = q) (ht : tiOf P t = some ⟨.slice e, sz, by_, z⟩) (he : tiOf P e = some ti) (h1 : ti.zero.cells.size = K ∧ ti.size = K ∧ 1 ≤ ti.bytes ∧ 0 < K) (hb : h[b]? = some (some ⟨e, l.flatMap C⟩)) {s : V} (hs : srcV h K s = some (m.flatMap C, m.length))
    {r : List α} (ha : app ti.bytes l m = some r) (hl : h.length = i) (hh : h.set b none ++ [some ⟨e, r.flatMap C⟩] = h') : appendV P t t (.sl b 0 q K true) s h = some (.sl i 0 r.length K true, h') := by
  obtain ⟨h2, h3, h4, h5⟩ := h1
  subst hn
  unfold app at ha
  split at ha
  · rename_i hlim
    injection ha with ha
    subst ha hl hh
    have hx : srcV h ti.size s = some (m.flatMap C, m.length) := by rw [h3]; exact hs
    simp only [appendV, ne_eq, not_true, if_false, ht, he]
    rw [if_pos ⟨by rw [h2, h3], by omega, h4⟩]
    simp only [hx, hb]
    rw [if_pos ⟨h3.symm, trivial, by rw [flat_len hC]; exact Nat.le_refl _, hlim⟩, List.take_of_length_le (by rw [flat_len hC]; exact Nat.le_refl _)]
    simp
  · cases ha
theorem appNK (ht : tiOf P t = some ⟨.slice e, sz, by_, z⟩) (he : tiOf P e = some ti) (h1 : ti.zero.cells.size = K ∧ ti.size = K ∧ 1 ≤ ti.bytes ∧ 0 < K) {s : V} (hs : srcV h K s = some (m.flatMap C, m.length)) (hag : isAggD ti.desc = true) {k : Nat}
    {r : List α} (ha : app ti.bytes [] m = some r) (hl : h.length + 1 = i) (hh : h ++ [none] ++ [some ⟨e, r.flatMap C⟩] = h') : appendV P t t (.row (some true) k []) s h = some (.sl i 0 r.length K true, h') := by
  obtain ⟨h2, h3, h4, h5⟩ := h1
  unfold app at ha
  split at ha
  · rename_i hlim
    injection ha with ha
    subst ha hl hh
    have hx : srcV h ti.size s = some (m.flatMap C, m.length) := by rw [h3]; exact hs
    simp only [appendV, ne_eq, not_true, if_false, ht, he]
    rw [if_pos ⟨by rw [h2, h3], by omega, h4⟩]
    simp only [hx]
    rw [if_pos (by simpa using hlim)]
    simp [h3, hag]
  · cases ha
theorem iaSK {q : Nat} (hn : l.length = q) (ht : tiOf P t = some ⟨.slice e, sz, by_, z⟩) (he : tiOf P e = some ti) (h1 : ti.size = K) (hx : idx l j = some y) : indexAtV P t (.sl b 0 q K true) (.sc (.int kk j)) = some (.ptr b (0 + j.toNat * K)) := by
  obtain ⟨h2, h3, _⟩ := idx_some hx
  subst hn
  simp [indexAtV, ht, asIdx, he, h1, h2, h3]
theorem partV_app {cs r : List V} (h : partV P t cs = some v) : partV P t (cs ++ r) = some v := by
  unfold partV at *
  split at h
  · cases h
  · split at h
    · rename_i hag
      split at h
      · rename_i hs
        rw [if_pos hag, if_pos (by rw [List.length_append]; omega), List.take_append_of_le_length hs]; exact h
      · cases h
    · rename_i hag
      rw [if_neg hag]
      cases cs with
      | nil => cases h
      | cons c cs => exact h
theorem flat_at (hC : ∀ x, (C x).length = K) {i : Nat} (hi : l[i]? = some y) (ho : off ≤ K) : (l.flatMap C).drop (0 + i * K + off) = (C y).drop off ++ (l.drop (i + 1)).flatMap C := by
  obtain ⟨h1, h2⟩ := List.getElem?_eq_some_iff.1 hi
  rw [Nat.zero_add, ← List.drop_drop, flat_drop hC, List.drop_eq_getElem_cons h1, h2, List.flatMap_cons, List.drop_append_of_le_length (by rw [hC]; exact ho)]
theorem ldXK (hC : ∀ x, (C x).length = K) (hb : h[b]? = some (some ⟨e, l.flatMap C⟩)) (hx : idx l j = some y) (ho : off ≤ K) (hp : partV P t ((C y).drop off) = some v) : loadV P t h (.ptr b (0 + j.toNat * K + off)) = some v := by
  obtain ⟨_, _, h3⟩ := idx_some hx
  simp only [loadV, hb]
  rw [flat_at hC h3 ho]
  exact partV_app hp
theorem ldXK0 (hC : ∀ x, (C x).length = K) (hb : h[b]? = some (some ⟨e, l.flatMap C⟩)) (hx : idx l j = some y) (hp : partV P t (C y) = some v) : loadV P t h (.ptr b (0 + j.toNat * K)) = some v := ldXK (off := 0) hC hb hx (Nat.zero_le _) (by simpa using hp)
theorem splice_flat (hC : ∀ x, (C x).length = K) {i : Nat} (hi : l[i]? = some y) {x : V} {y' : α} (ho : off + x.cells.length ≤ K) (hy : splice (C y) off x.cells = C y') : splice (l.flatMap C) (0 + i * K + off) x.cells = (l.set i y').flatMap C := by
  obtain ⟨h1, h2⟩ := List.getElem?_eq_some_iff.1 hi
  have hl : l = l.take i ++ y :: l.drop (i + 1) := by rw [← h2, ← List.drop_eq_getElem_cons h1, List.take_append_drop]
  have hset : l.set i y' = l.take i ++ y' :: l.drop (i + 1) := by
    rw [List.set_eq_take_append_cons_drop, if_pos h1]
  have hti : (l.take i).length = i := by rw [List.length_take]; omega
  rw [hset, List.flatMap_append, List.flatMap_cons, ← hy]
  conv => lhs; rw [hl, List.flatMap_append, List.flatMap_cons]
  have hA : ((l.take i).flatMap C).length = i * K := by rw [flat_len hC, hti]
  unfold splice
  rw [Nat.zero_add, List.take_append, List.take_of_length_le (by rw [hA]; omega), hA, show i * K + off - i * K = off by omega, List.take_append_of_le_length (by rw [hC]; omega)]
  rw [show i * K + off + x.cells.length = i * K + (off + x.cells.length) by omega, List.drop_append, List.drop_eq_nil_of_le (by rw [hA]; omega), hA, show i * K + (off + x.cells.length) - i * K = off + x.cells.length by omega, List.nil_append, List.drop_append_of_le_length (by rw [hC]; omega)]
  simp [List.append_assoc]
theorem stXK (hC : ∀ x, (C x).length = K) (ht : tiOf P t = some ti) (hb : h[b]? = some (some ⟨e, l.flatMap C⟩)) (hx : idx l j = some y) {x : V} {y' : α} (hf : x.flatOk = true) (hs : x.cells.length = ti.size) (ho : off + ti.size ≤ K) (hy : splice (C y) off x.cells = C y') (hh : h.set b (some ⟨e, (l.set j.toNat y').flatMap C⟩) = h') : storeV P t h (.ptr b (0 + j.toNat * K + off)) x = some h' := by
  obtain ⟨_, _, h3⟩ := idx_some hx
  have h4 := (List.getElem?_eq_some_iff.1 h3).1
  subst hh
  simp only [storeV, ht, hb]
  have hle : (j.toNat + 1) * K ≤ l.length * K := Nat.mul_le_mul_right K h4
  rw [if_pos ⟨hf, hs, by rw [flat_len hC]; rw [Nat.add_mul, Nat.one_mul] at hle; omega⟩, splice_flat hC h3 (by rw [hs]; exact ho) hy]
theorem Conv.rowK (hC : ∀ x, (C x).length = K) (h1K : ∀ x, (C x).all V.one = true) (hsh : ∀ x, (C x).all V.shut = true) {h h' : Hp} (hs : Sub h h') {b n : Nat} {e : TypeId} (hb : h[b]? = some (some ⟨e, l.flatMap C⟩)) (hb' : h'[b]? = some none) (hn : n = l.length) : Conv h h' (.sl b 0 n K true) (.row none K (l.map fun x => V.agg (C x))) := by
  intro A M w v H hv
  obtain ⟨hone, hcase⟩ := H.blk b _ hb
  have hok : ∀ e ∈ l.map (fun x => V.agg (C x)), e.okElem K = true := by
    intro e he
    simp only [List.mem_map] at he
    obtain ⟨x, _, rfl⟩ := he
    simp only [V.okElem, V.flatOk, V.cells, h1K x, hC x, beq_self_eq_true, Bool.and_self]
  unfold VR at hv ⊢
  rcases hv with ⟨hm, rfl, h0, _⟩ | ⟨g, cap, e', sz, hm, rfl, h1, _, h3, hshp, _⟩
  · have : l = [] := List.eq_nil_of_length_eq_zero (by omega)
    subst this
    exact ⟨none, 0, rfl, Nat.le_refl _, fun _ => rfl, (fun b hb => by cases hb), by simp, fun hne => absurd rfl hne⟩
  · rcases hcase with ⟨hm', _⟩ | ⟨g', arr, hm', hA, hw, hle, hcs⟩
    · rw [hm] at hm'; cases hm'
    · rw [hm] at hm'
      injection hm' with hm'
      injection hm' with hm'
      subst hm'
      refine ⟨some ⟨g, 0, none⟩, cap, by rw [List.length_map, hn], by rw [List.length_map]; omega, fun hh => (by cases hh), (fun b hb => by cases hb), hok, fun _ => ⟨⟨g, 0, none⟩, rfl, h3, ?_, rfl, ?_⟩⟩
      · rintro (ha | ⟨c, C', hc, hmc⟩)
        · exact hA ha
        · obtain ⟨C'', hc'⟩ := hs c C' hc
          have := H.inj c b C'' _ g hc' hb hmc hm
          subst this
          rw [hb'] at hc; cases hc
      · rw [← flat_chunks hC l]
        unfold chunks
        rw [if_pos rfl]
        dsimp only at hle hcs
        have hall := all_flat hsh l
        refine rowOfChunks h3 l.length (vs := arr.toList.take (l.flatMap C).length) (flat_len hC l) (VCells.mk hcs.len (fun i c u hc hu => ?_)) ?_
        · obtain ⟨u', hu', hr⟩ := hcs.get hc
          rw [hu] at hu'
          injection hu' with hu'
          subst hu'
          exact (hr.shut (List.all_eq_true.1 hall c (List.mem_of_getElem? hc))).avoid (fun _ _ hx => hs.xs hx)
        · intro i u hu
          have hu2 : arr[i]? = some u := by
            simp only [List.getElem?_toArray, List.getElem?_take] at hu
            split at hu
            · simpa using hu
            · cases hu
          have := hw.cell hshp i
          rw [hu2] at this
          unfold Addr.add
          split
          · rename_i h0; subst h0; exact this
          · simpa using this
theorem fill_numK (hC : ∀ x, (C x).length = K) (h1 : ∀ x, (C x).all V.one = true) : ∀ (xs : List α) (i : Nat) (cells : List V), cells.length = (i + xs.length) * K → fillV (fun i => some (i * K, K)) cells (numP i (xs.map fun x => V.agg (C x))) = some (cells.take (i * K) ++ xs.flatMap C)
  | [], i, cells, hl => by
    simp only [List.map_nil, numP, fillV, List.flatMap_nil, List.append_nil]
    rw [List.take_of_length_le (by rw [hl]; simp)]
  | x :: xs, i, cells, hl => by
    simp only [List.length_cons] at hl
    have hl' : cells.length = i * K + K + xs.length * K := by rw [hl, Nat.add_mul, Nat.add_mul, Nat.one_mul]; omega
    simp only [List.map_cons, numP, fillV]
    rw [if_pos ⟨by simp [V.flatOk, V.cells, h1 x], by simp [V.cells, hC x], by omega⟩]
    have hsl : (splice cells (i * K) (V.agg (C x)).cells).length = cells.length := splice_length _ _ _ (by simp only [V.cells, hC]; omega)
    rw [fill_numK hC h1 xs (i + 1) _ (by rw [hsl, hl]; congr 1; omega)]
    congr 1
    rw [List.flatMap_cons, ← List.append_assoc]
    congr 1
    unfold splice
    simp only [V.cells]
    rw [Nat.add_mul, Nat.one_mul, List.append_assoc, List.take_append, List.take_of_length_le (by rw [List.length_take]; omega), List.length_take, Nat.min_eq_left (by omega), show i * K + K - i * K = K by omega, List.take_append_of_le_length (by rw [hC]; exact Nat.le_refl _), show (C x).take K = C x from List.take_of_length_le (by rw [hC]; exact Nat.le_refl _)]
theorem bldLK {len : Nat} {ps : List (Nat × V)} {xs : List α} (hC : ∀ x, (C x).length = K) (h1C : ∀ x, (C x).all V.one = true) (ht : tiOf P t = some ⟨.slice e, sz, by_, z⟩) (he : tiOf P e = some ti) (h1 : len * K ≤ 2 ^ 24 ∧ 0 < len ∧ 0 < K) (hK : ti.size = K) (hag : isAggD ti.desc = true)
    (hp : numP 0 (xs.map fun x => V.agg (C x)) = ps) (hlen : xs.length = len) (hl : h.length = i) (hh : h ++ [some ⟨e, xs.flatMap C⟩] = h') :
    buildSliceV P t len ps h = some (.sl i 0 len K true, h') := by
  subst hK hp
  refine bldL ht he h1 hag ?_ ⟨all_flat h1C xs, by rw [flat_len hC, hlen]⟩ hl hh
  rw [fill_numK hC h1C xs 0 _ (by simp [hlen])]
  simp
end
theorem pfn_runE {P : Program} (hm : P.follows .mixedOrders = true) (n : Nat) {f : FuncId} {args : List V} {r : V} (he : ((evalFn P n f [] args).bind fun p => expV p.2 p.1) = some r) : PFn P f args r := by
  cases hh : evalFn P n f [] args with
  | none => rw [hh] at he; cases he
  | some p => rw [hh] at he; exact pfn_run hm n (r := p.1) (h' := p.2) hh he
end Go.Vm
set_option linter.unusedSimpArgs false
set_option linter.unusedVariables false
namespace Go.Vm
open Go
def flatFs (P : Program) (g : TypeId → Option (List TypeDesc)) : List Field → Nat → Option (List TypeDesc)
  | [], _ => some []
  | f :: fs, off => if f.name = "_" ∨ f.offset ≠ off then none else match tiOf P f.type, g f.type with
    | some d, some l => if d.size = l.length ∧ 0 < d.size then (flatFs P g fs (off + l.length)).map (l ++ ·) else none
    | _, _ => none
def flatTy (P : Program) : Nat → TypeId → Option (List TypeDesc)
  | 0, _ => none
  | d + 1, t => match tiOf P t with
    | some ⟨.int k, sz, _, _⟩ => if sz = 1 then some [.int k] else none
    | some ⟨.bool, sz, _, _⟩ => if sz = 1 then some [.bool] else none
    | some ⟨.string, sz, _, _⟩ => if sz = 1 then some [.string] else none
    | some ⟨.array n e, sz, _, _⟩ => match tiOf P e, flatTy P d e with
      | some de, some l => if de.size = l.length ∧ sz = n * l.length then some (List.replicate n l).flatten else none
      | _, _ => none
    | some ⟨.struct fs, sz, _, _⟩ => if P.stoodInHeld t = true then none else match flatFs P (flatTy P d) fs.toList 0 with
      | some l => if sz = l.length then some l else none
      | none => none
    | _ => none
def mkT (ti : TI) (vs : List Value) : Value := if isAggD ti.desc then .agg vs.toArray else vs.headD default
def okVs : List TypeDesc → List Value → Bool
  | [], [] => true
  | .int k :: ds, .int k' _ :: vs => decide (k = k') && okVs ds vs
  | .bool :: ds, .bool _ :: vs => okVs ds vs
  | .string :: ds, .string _ :: vs => okVs ds vs
  | _, _ => false
def valEq : Value → Value → Bool
  | .int _ a, .int _ b => a == b
  | .bool a, .bool b => a == b
  | .string a, .string b => a == b
  | _, _ => false
def valsEq : List Value → List Value → Bool
  | [], [] => true
  | x :: xs, y :: ys => valEq x y && valsEq xs ys
  | _, _ => false
theorem valsEq_app : ∀ {a c b d : List Value}, a.length = c.length → valsEq (a ++ b) (c ++ d) = (valsEq a c && valsEq b d)
  | [], [], _, _, _ => by simp [valsEq]
  | x :: a, y :: c, b, d, h => by
    simp only [List.cons_append, valsEq]
    rw [valsEq_app (by simpa using h), Bool.and_assoc]
  | [], _ :: _, _, _, h => by simp at h
  | _ :: _, [], _, _, h => by simp at h
theorem okVs_len : ∀ {ds : List TypeDesc} {vs : List Value}, okVs ds vs = true → vs.length = ds.length
  | [], [], _ => rfl
  | [], _ :: _, h => by simp [okVs] at h
  | d :: ds, [], h => by cases d <;> simp [okVs] at h
  | d :: ds, v :: vs, h => by
    have : okVs ds vs = true := by
      cases d <;> cases v <;> simp only [okVs, Bool.false_eq_true, Bool.and_eq_true] at h <;> first | exact h | exact h.2
    simp [okVs_len this]
theorem okVs_split : ∀ {l m : List TypeDesc} {vs : List Value}, okVs (l ++ m) vs = true → okVs l (vs.take l.length) = true ∧ okVs m (vs.drop l.length) = true
  | [], m, vs, h => by simpa [okVs] using h
  | d :: l, m, [], h => by cases d <;> simp [okVs] at h
  | d :: l, m, v :: vs, h => by
    cases d <;> cases v <;> simp only [List.cons_append, okVs, Bool.false_eq_true, Bool.and_eq_true] at h <;> simp only [List.length_cons, List.take_succ_cons, List.drop_succ_cons, okVs, Bool.and_eq_true]
    · exact okVs_split h
    · exact ⟨⟨h.1, (okVs_split h.2).1⟩, (okVs_split h.2).2⟩
    · exact okVs_split h
section
variable {P : Program}
theorem evalPure_partT {t : TypeId} {ti : TI} (ht : tiOf P t = some ti) {vs : List Value} {off : Nat} (h1 : isAggD ti.desc = true ∨ ti.size = 1) (hl : off + ti.size ≤ vs.length) : evalPure P (part t vs.toArray off) = some (mkT ti ((vs.drop off).take ti.size)) := by
  have hu := evalPure_underlying ht
  cases hag : isAggD ti.desc with
  | false =>
    have hs := h1.resolve_left (by rw [hag]; simp)
    have hlt : off < vs.length := by omega
    have := evalPure_part (P := P) ht hag (cs := vs.toArray) (off := off) (v := vs[off]) (by simp [hlt])
    rw [this]
    simp only [mkT, hag, Bool.false_eq_true, if_false, hs]
    rw [List.drop_eq_getElem_cons hlt]; rfl
  | true =>
    unfold part
    have h1 : evalPure P (isAgg t) = some true := by
      unfold isAgg
      rw [evalPure_bind _ _ hu]
      cases hh : ti.desc <;> first | rfl | (rw [hh] at hag; simp [isAggD] at hag)
    rw [evalPure_bind _ _ h1]
    simp only [if_true]
    rw [evalPure_bind _ _ (evalPure_sizeOf ht)]
    simp only [mkT, hag, if_true, List.extract_toArray, List.extract_eq_drop_take']
    show some _ = _
    congr 2
    simp [List.take_drop]
theorem forB {α : Type} {p : α → Bool} {body : α → Option Bool × Unit → Sem (ForInStep (Option Bool × Unit))} {k : Option Bool × Unit → Sem Bool} (h1 : ∀ r u, k (some r, u) = pure r) (h2 : ∀ u, k (none, u) = pure true) : ∀ (l : List α), (∀ a ∈ l, ∀ s, evalPure P (body a s) = some (if p a = true then .yield (none, ()) else .done (some false, ()))) →
    evalPure P (forIn l ((none, ()) : Option Bool × Unit) body >>= k) = some (l.all p)
  | [], _ => by
    simp only [List.forIn_nil, pure_bind, h2]
    rfl
  | a :: l, h => by
    simp only [List.forIn_cons, bind_assoc]
    rw [evalPure_bind _ _ (h a (by simp) _)]
    cases hp : p a with
    | true =>
      simp only [if_true, List.all_cons, hp, Bool.true_and]
      exact forB h1 h2 l (fun b hb => h b (by simp [hb]))
    | false =>
      simp only [Bool.false_eq_true, if_false, List.all_cons, hp, Bool.false_and, pure_bind, h1]
      rfl
theorem forU {α : Type} {body : α → PUnit → Sem (ForInStep PUnit)} : ∀ (l : List α), (∀ a ∈ l, ∀ s, evalPure P (body a s) = some (.yield PUnit.unit)) →
    evalPure P (do
      forIn l PUnit.unit body
      pure ()) = some ()
  | [], _ => by simp only [List.forIn_nil]; rfl
  | a :: l, h => by
    simp only [List.forIn_cons, bind_assoc]
    rw [evalPure_bind _ _ (h a (by simp) _)]
    exact forU l (fun b hb => h b (by simp [hb]))
theorem valsEq_chunks {m : Nat} {xs ys : List Value} : ∀ (c i : Nat), xs.length = (i + c) * m → ys.length = (i + c) * m → valsEq (xs.drop (i * m)) (ys.drop (i * m)) = (List.range' i c).all fun i => valsEq ((xs.drop (i * m)).take m) ((ys.drop (i * m)).take m)
  | 0, i, hx, hy => by
    rw [List.drop_eq_nil_of_le (by rw [hx]; simp), List.drop_eq_nil_of_le (by rw [hy]; simp)]
    simp [valsEq]
  | c + 1, i, hx, hy => by
    have ih := valsEq_chunks (m := m) (xs := xs) (ys := ys) c (i + 1) (by rw [hx]; congr 1; omega) (by rw [hy]; congr 1; omega)
    simp only [List.range'_succ, List.all_cons]
    rw [← ih]
    have e : (i + 1) * m = i * m + m := by rw [Nat.add_mul, Nat.one_mul]
    have hm : m ≤ (c + 1) * m := Nat.le_mul_of_pos_left m (by omega)
    have h2 : (i + (c + 1)) * m = i * m + (c + 1) * m := Nat.add_mul _ _ _
    rw [e, ← List.drop_drop, ← List.drop_drop, ← valsEq_app (by simp only [List.length_take, List.length_drop, hx, hy]), List.take_append_drop, List.take_append_drop]
theorem okVs_rep {l : List TypeDesc} : ∀ (c : Nat) {xs : List Value}, okVs (List.replicate c l).flatten xs = true → ∀ i, i < c → okVs l ((xs.drop (i * l.length)).take l.length) = true
  | 0, _, _, i, hi => by omega
  | c + 1, xs, h, i, hi => by
    simp only [List.replicate_succ, List.flatten_cons] at h
    obtain ⟨h1, h2⟩ := okVs_split h
    cases i with
    | zero => simpa using h1
    | succ i =>
      have := okVs_rep c h2 i (by omega)
      rw [List.drop_drop] at this
      rw [Nat.add_mul, Nat.one_mul, Nat.add_comm]
      exact this
def fieldEq (P : Program) (xs ys : List Value) (f : Field) : Bool := match tiOf P f.type with
  | some d => valsEq ((xs.drop f.offset).take d.size) ((ys.drop f.offset).take d.size)
  | none => false
theorem flatFs_all {g : TypeId → Option (List TypeDesc)} {xs ys : List Value} : ∀ (fs : List Field) (off : Nat) {l : List TypeDesc}, flatFs P g fs off = some l → okVs l (xs.drop off) = true → okVs l (ys.drop off) = true →
    fs.all (fieldEq P xs ys) = valsEq (xs.drop off) (ys.drop off) ∧ ∀ f ∈ fs, f.name ≠ "_" ∧ ∃ df lf, tiOf P f.type = some df ∧ g f.type = some lf ∧ df.size = lf.length ∧ f.offset + df.size ≤ xs.length ∧ f.offset + df.size ≤ ys.length ∧
      okVs lf ((xs.drop f.offset).take df.size) = true ∧ okVs lf ((ys.drop f.offset).take df.size) = true
  | [], off, l, h, hx, hy => by
    simp only [flatFs, Option.some.injEq] at h
    subst h
    have e1 := okVs_len hx
    have e2 := okVs_len hy
    rw [List.eq_nil_of_length_eq_zero e1, List.eq_nil_of_length_eq_zero e2]
    simp [valsEq]
  | f :: fs, off, l, h, hx, hy => by
    simp only [flatFs] at h
    split at h
    · cases h
    · rename_i hno
      have hname : f.name ≠ "_" := fun e => hno (.inl e)
      have hoff : f.offset = off := Classical.byContradiction fun e => hno (.inr e)
      split at h
      · rename_i df lf hd hg
        split at h
        · rename_i hsz
          obtain ⟨hsz, h0⟩ := hsz
          simp only [Option.map_eq_some_iff] at h
          obtain ⟨l', hl', rfl⟩ := h
          obtain ⟨x1, x2⟩ := okVs_split hx
          obtain ⟨y1, y2⟩ := okVs_split hy
          rw [List.drop_drop] at x2 y2
          obtain ⟨i1, i2⟩ := flatFs_all fs (off + lf.length) hl' x2 y2
          have lx := okVs_len hx
          have ly := okVs_len hy
          simp only [List.length_drop, List.length_append] at lx ly
          have hxl : off ≤ xs.length ∨ lf.length + l'.length = 0 := by omega
          have x1l := okVs_len x1
          have y1l := okVs_len y1
          simp only [List.length_take, List.length_drop] at x1l y1l
          refine ⟨?_, ?_⟩
          · simp only [List.all_cons, i1, fieldEq, hd, hoff, hsz]
            rw [← List.drop_drop, ← List.drop_drop, ← valsEq_app (by simp only [List.length_take, List.length_drop]; omega), List.take_append_drop, List.take_append_drop]
          · intro f' hf'
            rcases List.mem_cons.1 hf' with rfl | hf'
            · exact ⟨hname, df, lf, hd, hg, hsz, by omega, by omega, by rw [hoff, hsz]; exact x1, by rw [hoff, hsz]; exact y1⟩
            · exact i2 f' hf'
        · cases h
      · cases h
theorem equal_flat : ∀ (d : Nat) {t : TypeId} {L : List TypeDesc} {ti : TI}, tiOf P t = some ti → flatTy P d t = some L → (L.length = ti.size ∧ (isAggD ti.desc = true ∨ ti.size = 1)) ∧
    ∀ (n : Nat) {xs : List Value}, okVs L xs = true → (∀ {ys : List Value}, okVs L ys = true → evalPure P (Op.equalIn (n + d) t (mkT ti xs) (mkT ti ys)) = some (valsEq xs ys)) ∧ ∀ b, evalPure P (Instr.checkKey b (n + d) t (mkT ti xs)) = some ()
  | 0, t, L, ti, _, h => by simp [flatTy] at h
  | d + 1, t, L, ti, ht, h => by
    simp only [flatTy] at h
    rw [ht] at h
    split at h
    · rename_i k sz _ _ he
      injection he with he; subst he
      split at h
      · rename_i h1
        injection h with h; subst h
        refine ⟨⟨by simp [h1], .inr h1⟩, fun n xs hx => ⟨fun {ys} hy => ?_, fun b => ?_⟩⟩
        · match xs, ys, okVs_len hx, okVs_len hy, hx, hy with
          | [.int k1 a], [.int k2 c], _, _, hx, hy =>
            simp only [okVs, Bool.and_true, decide_eq_true_eq] at hx hy
            subst hx; subst hy
            simp only [mkT, isAggD, Bool.false_eq_true, if_false, List.headD_cons, valsEq, valEq, Bool.and_true]
            exact equal_int ht _ a c
        · match xs, okVs_len hx, hx with
          | [.int k1 a], _, hx =>
            show evalPure P (Instr.checkKey b (n + d + 1) t _) = _
            rw [Instr.checkKey, evalPure_bind _ _ (evalPure_underlying ht)]
            rfl
      · cases h
    · rename_i sz _ _ he
      injection he with he; subst he
      split at h
      · rename_i h1
        injection h with h; subst h
        refine ⟨⟨by simp [h1], .inr h1⟩, fun n xs hx => ⟨fun {ys} hy => ?_, fun b => ?_⟩⟩
        · match xs, ys, hx, hy with
          | [.bool a], [.bool c], hx, hy =>
            show evalPure P (Op.equalIn (n + d + 1) t _ _) = _
            rw [Op.equalIn, evalPure_bind _ _ (evalPure_underlying ht)]
            simp only [mkT, isAggD, Bool.false_eq_true, if_false, List.headD_cons, valsEq, valEq, Bool.and_true]
            rfl
        · match xs, hx with
          | [.bool a], hx =>
            show evalPure P (Instr.checkKey b (n + d + 1) t _) = _
            rw [Instr.checkKey, evalPure_bind _ _ (evalPure_underlying ht)]
            rfl
      · cases h
    · rename_i sz _ _ he
      injection he with he; subst he
      split at h
      · rename_i h1
        injection h with h; subst h
        refine ⟨⟨by simp [h1], .inr h1⟩, fun n xs hx => ⟨fun {ys} hy => ?_, fun b => ?_⟩⟩
        · match xs, ys, hx, hy with
          | [.string a], [.string c], hx, hy =>
            show evalPure P (Op.equalIn (n + d + 1) t _ _) = _
            rw [Op.equalIn, evalPure_bind _ _ (evalPure_underlying ht)]
            simp only [mkT, isAggD, Bool.false_eq_true, if_false, List.headD_cons, valsEq, valEq, Bool.and_true]
            rfl
        · match xs, hx with
          | [.string a], hx =>
            show evalPure P (Instr.checkKey b (n + d + 1) t _) = _
            rw [Instr.checkKey, evalPure_bind _ _ (evalPure_underlying ht)]
            rfl
      · cases h
    · rename_i len e sz _ _ he
      injection he with he; subst he
      split at h
      · rename_i de l hde hle
        split at h
        · rename_i hc
          obtain ⟨hc1, hc2⟩ := hc
          injection h with h; subst h
          obtain ⟨⟨_, ag⟩, ih⟩ := equal_flat d hde hle
          have hL : (List.replicate len l).flatten.length = len * l.length := by simp
          refine ⟨⟨by rw [hL]; exact hc2.symm, .inl rfl⟩, fun n xs hx => ?_⟩
          have lx := okVs_len hx
          rw [hL] at lx
          have hxo := okVs_rep len hx
          have slot : ∀ i, i < len → i * l.length + l.length ≤ len * l.length := fun i hi => by
            have := Nat.mul_le_mul_right l.length (show i + 1 ≤ len from hi)
            rw [Nat.add_mul, Nat.one_mul] at this; exact this
          have px : ∀ i, i < len → evalPure P (part e xs.toArray (i * l.length)) = some (mkT de ((xs.drop (i * l.length)).take l.length)) := fun i hi => by
            have := evalPure_partT (P := P) hde ag (vs := xs) (off := i * l.length) (by rw [hc1, lx]; exact slot i hi)
            rw [hc1] at this; exact this
          refine ⟨fun {ys} hy => ?_, fun b => ?_⟩
          · have ly := okVs_len hy
            rw [hL] at ly
            have hyo := okVs_rep len hy
            have py : ∀ i, i < len → evalPure P (part e ys.toArray (i * l.length)) = some (mkT de ((ys.drop (i * l.length)).take l.length)) := fun i hi => by
              have := evalPure_partT (P := P) hde ag (vs := ys) (off := i * l.length) (by rw [hc1, ly]; exact slot i hi)
              rw [hc1] at this; exact this
            show evalPure P (Op.equalIn (n + d + 1) t (.agg xs.toArray) (.agg ys.toArray)) = _
            rw [Op.equalIn, evalPure_bind _ _ (evalPure_underlying ht)]
            simp only
            rw [evalPure_bind _ _ (evalPure_sizeOf hde), hc1]
            simp only [Std.Legacy.Range.forIn_eq_forIn_range', Std.Legacy.Range.size, Nat.sub_zero, Nat.add_one_sub_one, Nat.div_one]
            have hch := valsEq_chunks (m := l.length) (xs := xs) (ys := ys) len 0 (by simpa using lx) (by simpa using ly)
            simp only [Nat.zero_mul, List.drop_zero] at hch
            rw [hch]
            refine forB (fun _ _ => rfl) (fun _ => rfl) _ fun i hi s => ?_
            have hil : i < len := by simp at hi; omega
            rw [evalPure_bind _ _ (px i hil), evalPure_bind _ _ (py i hil), evalPure_bind _ _ ((ih n (hxo i hil)).1 (hyo i hil))]
            cases valsEq ((xs.drop (i * l.length)).take l.length) ((ys.drop (i * l.length)).take l.length) <;> rfl
          · show evalPure P (Instr.checkKey b (n + d + 1) t (.agg xs.toArray)) = _
            rw [Instr.checkKey, evalPure_bind _ _ (evalPure_underlying ht)]
            simp only [Std.Legacy.Range.forIn_eq_forIn_range', Std.Legacy.Range.size, Nat.sub_zero, Nat.add_one_sub_one, Nat.div_one]
            refine forU _ fun i hi s => ?_
            have hil : i < len := by simp at hi; omega
            rw [evalPure_bind _ _ (evalPure_sizeOf hde), hc1, evalPure_bind _ _ (px i hil), evalPure_bind _ _ ((ih n (hxo i hil)).2 b)]
            rfl
        · cases h
      · cases h
    · rename_i fs sz _ _ he
      injection he with he; subst he
      split at h
      · cases h
      · rename_i hst
        have hst' : P.stoodInHeld t = false := by simpa using hst
        split at h
        · rename_i l hl
          split at h
          · rename_i hsz
            injection h with h; subst h
            refine ⟨⟨hsz.symm, .inl rfl⟩, fun n xs hx => ?_⟩
            have hx0 : okVs l (xs.drop 0) = true := by simpa using hx
            refine ⟨fun {ys} hy => ?_, fun b => ?_⟩
            · have hy0 : okVs l (ys.drop 0) = true := by simpa using hy
              obtain ⟨a1, a2⟩ := flatFs_all (P := P) _ 0 hl hx0 hy0
              simp only [List.drop_zero] at a1
              show evalPure P (Op.equalIn (n + d + 1) t (.agg xs.toArray) (.agg ys.toArray)) = _
              rw [Op.equalIn, evalPure_bind _ _ (evalPure_underlying ht)]
              simp only
              have hp : evalPure P (program) = some P := rfl
              rw [evalPure_bind _ _ hp]
              simp only [hst', Bool.false_eq_true, if_false]
              rw [← a1]
              simp only [← Array.forIn_toList]
              refine forB (fun _ _ => rfl) (fun _ => rfl) _ fun f hf s => ?_
              obtain ⟨f1, df, lf, f2, f3, f4, f5, f6, f7, f8⟩ := a2 f hf
              obtain ⟨⟨_, ag⟩, ih⟩ := equal_flat d f2 f3
              simp only [f1, ne_eq, not_false_eq_true, if_true]
              rw [evalPure_bind _ _ (evalPure_partT f2 ag f5), evalPure_bind _ _ (evalPure_partT f2 ag f6), evalPure_bind _ _ ((ih n f7).1 f8)]
              simp only [fieldEq, f2]
              cases valsEq ((xs.drop f.offset).take df.size) ((ys.drop f.offset).take df.size) <;> rfl
            · obtain ⟨_, a2⟩ := flatFs_all (P := P) _ 0 hl hx0 hx0
              show evalPure P (Instr.checkKey b (n + d + 1) t (.agg xs.toArray)) = _
              rw [Instr.checkKey, evalPure_bind _ _ (evalPure_underlying ht)]
              simp only
              simp only [← Array.forIn_toList]
              refine forU _ fun f hf s => ?_
              obtain ⟨f1, df, lf, f2, f3, f4, f5, f6, f7, f8⟩ := a2 f hf
              obtain ⟨⟨_, ag⟩, ih⟩ := equal_flat d f2 f3
              simp only [f1, ne_eq, not_false_eq_true, if_true]
              rw [evalPure_bind _ _ (evalPure_partT f2 ag f5), evalPure_bind _ _ ((ih n f7).2 b)]
              rfl
          · cases h
        · cases h
    · cases h
end
end Go.Vm
set_option linter.unusedSimpArgs false
set_option linter.unusedVariables false
namespace Go.Vm
open Go
instance : Inhabited MT := ⟨⟨0, 0, ⟨.bool, 0, 0, default⟩, ⟨.bool, 0, 0, default⟩⟩⟩
section
variable {P : Program} {t : TypeId} {L : List TypeDesc} {ti : TI} {xo yo : Operand} {d : Nat}
theorem guard_flat (hg : P.eqGuardType P.depth t = false) {bo : BinOp} (hbo : bo = .eql ∨ bo = .neq) (a b : Array Value) : evalPure P (eqGuard bo t xo yo (.agg a) (.agg b)) = some () := by
  unfold eqGuard
  rcases hbo with rfl | rfl <;>
  · show evalPure P (if (!P.eqGuardType P.depth t) = true then pure () else _) = some ()
    rw [hg]; rfl
theorem equal_agg (ht : tiOf P t = some ti) (hag : isAggD ti.desc = true) (hf : flatTy P d t = some L) (hd : d ≤ 10000) {xs ys : List Value} (ox : okVs L xs = true) (oy : okVs L ys = true) : evalPure P (Op.equal t (.agg xs.toArray) (.agg ys.toArray)) = some (valsEq xs ys) := by
  have := ((equal_flat d ht hf).2 (10000 - d) ox).1 oy
  simp only [mkT, hag, if_true] at this
  rw [Nat.sub_add_cancel hd] at this
  exact this
theorem bin_eqlP (ht : tiOf P t = some ti) (hag : isAggD ti.desc = true) (hf : flatTy P d t = some L) (hd : d ≤ 10000) (hg : P.eqGuardType P.depth t = false) {cs ds : List V} {xs ys : List Value} {r : Bool} (hx : cs.mapM cellVal = some xs) (hy : ds.mapM cellVal = some ys) (ox : okVs L xs = true) (oy : okVs L ys = true) (hr : valsEq xs ys = r) :
    binV P .eql t xo yo (.agg cs) (.agg ds) = some (.sc (.bool r)) := by
  simp only [binV, toVal, hx, hy, Option.map_some, pureV]
  rw [evalPure_bind _ _ (guard_flat hg (.inl rfl) _ _)]
  have : evalPure P (binOp .eql t (.agg xs.toArray) (.agg ys.toArray)) = some (.bool (valsEq xs ys)) := evalPure_map _ _ (equal_agg ht hag hf hd ox oy)
  rw [this, hr]; rfl
theorem bin_neqP (ht : tiOf P t = some ti) (hag : isAggD ti.desc = true) (hf : flatTy P d t = some L) (hd : d ≤ 10000) (hg : P.eqGuardType P.depth t = false) {cs ds : List V} {xs ys : List Value} {r : Bool} (hx : cs.mapM cellVal = some xs) (hy : ds.mapM cellVal = some ys) (ox : okVs L xs = true) (oy : okVs L ys = true) (hr : valsEq xs ys = r) :
    binV P .neq t xo yo (.agg cs) (.agg ds) = some (.sc (.bool (!r))) := by
  simp only [binV, toVal, hx, hy, Option.map_some, pureV]
  rw [evalPure_bind _ _ (guard_flat hg (.inr rfl) _ _)]
  have : evalPure P (binOp .neq t (.agg xs.toArray) (.agg ys.toArray)) = some (.bool (!(valsEq xs ys))) := evalPure_map _ (fun b => Value.bool !b) (equal_agg ht hag hf hd ox oy)
  rw [this, hr]; rfl
end
structure KeyOk (P : Program) (kt : TypeId) {α : Type} (VK : α → Value) (eq : α → α → Bool) : Prop where
  equal : ∀ a b, evalPure P (Op.equal kt (VK a) (VK b)) = some (eq a b)
  check : ∀ e a, evalPure P (Instr.checkKey e 10000 kt (VK a)) = some ()
  stays : ∀ a b, eq a b = true → Instr.sameBits 10000 (VK b) (VK a) = true
theorem ba_eq {a b : ByteArray} (h : (a == b) = true) : a = b := by
  obtain ⟨a⟩ := a
  obtain ⟨b⟩ := b
  have h' : (a == b) = true := h
  rw [eq_of_beq h']
theorem bits_of : ∀ (n : Nat) {L : List TypeDesc} {xs ys : List Value}, okVs L xs = true → okVs L ys = true → valsEq xs ys = true → (ys.zip xs).all (fun (x, y) => Instr.sameBits n x y) = true
  | n, [], [], [], _, _, _ => rfl
  | n, d :: L, x :: xs, y :: ys, hx, hy, h => by
    simp only [valsEq, Bool.and_eq_true] at h
    have key : okVs L xs = true ∧ okVs L ys = true ∧ Instr.sameBits n y x = true := by
      cases d <;> cases x <;> simp only [okVs, Bool.false_eq_true, Bool.and_eq_true, decide_eq_true_eq] at hx <;> cases y <;> simp only [okVs, Bool.false_eq_true, Bool.and_eq_true, decide_eq_true_eq] at hy <;> simp only [valEq, beq_iff_eq] at h
      · exact ⟨hx, hy, by cases n <;> simp [Instr.sameBits, h.1]⟩
      · refine ⟨hx.2, hy.2, ?_⟩
        have h1 := hx.1.symm.trans hy.1
        cases n <;> simp [Instr.sameBits, h.1, h1]
      · refine ⟨hx, hy, ?_⟩
        have h1 := ba_eq h.1
        subst h1
        cases n <;> exact h.1
    simp only [List.zip_cons_cons, List.all_cons, key.2.2, Bool.true_and]
    exact bits_of n key.1 key.2.1 h.2
  | n, [], _ :: _, _, hx, _, _ => by simp [okVs] at hx
  | n, [], [], _ :: _, _, hy, _ => by simp [okVs] at hy
  | n, d :: L, [], _, hx, _, _ => by cases d <;> simp [okVs] at hx
  | n, d :: L, _ :: _, [], _, hy, _ => by cases d <;> simp [okVs] at hy
theorem keyOk_flat {P : Program} {kt : TypeId} {L : List TypeDesc} {ti : TI} {d : Nat} {α : Type} {xs : α → List Value} {eq : α → α → Bool} (ht : tiOf P kt = some ti) (hag : isAggD ti.desc = true) (hf : flatTy P d kt = some L) (hd : d ≤ 10000) (ok : ∀ a, okVs L (xs a) = true) (heq : ∀ a b, valsEq (xs a) (xs b) = eq a b) :
    KeyOk P kt (fun a => .agg (xs a).toArray) eq := by
  refine ⟨fun a b => by rw [← heq]; exact equal_agg ht hag hf hd (ok a) (ok b), fun e a => ?_, fun a b h => ?_⟩
  · have := ((equal_flat d ht hf).2 (10000 - d) (ok a)).2 e
    simp only [mkT, hag, if_true] at this
    rw [Nat.sub_add_cancel hd] at this
    exact this
  · have h1 := bits_of 9999 (ok a) (ok b) (by rw [heq]; exact h)
    have hl : (xs b).length = (xs a).length := by rw [okVs_len (ok a), okVs_len (ok b)]
    show Instr.sameBits (9999 + 1) _ _ = true
    simp only [Instr.sameBits, List.size_toArray, hl, beq_self_eq_true, Bool.true_and]
    exact h1
def mfind {α β : Type} (eq : α → α → Bool) (l : List (α × β)) (k : α) : Option Nat := l.findIdx? fun e => eq k e.1
def mget {α β : Type} (eq : α → α → Bool) (l : List (α × β)) (k : α) (z : β) : β := match mfind eq l k with
  | some i => ((l[i]?).map (·.2)).getD z
  | none => z
def mhas {α β : Type} (eq : α → α → Bool) (l : List (α × β)) (k : α) : Bool := (mfind eq l k).isSome
def mput {α β : Type} (eq : α → α → Bool) (l : List (α × β)) (k : α) (v : β) : List (α × β) := match mfind eq l k with
  | some i => l.set i (k, v)
  | none => l ++ [(k, v)]
section
variable {P : Program} {kt : TypeId} {α β : Type} {VK : α → Value} {eq : α → α → Bool} {CK : α → List V} {E : β → V} {C : α × β → List V} {K : Nat} {l : List (α × β)} {k : α} {v : β}
theorem ent_flat (hC : ∀ e, C e = CK e.1 ++ [E e.2]) (hl : ∀ a, (CK a).length = K) (h0 : 0 < K) : ∀ l : List (α × β), entV K 0 l.length (l.flatMap C) = l.map fun e => (V.agg (CK e.1), E e.2)
  | [] => rfl
  | e :: l => by
    have w1 : width K = K := by unfold width; rw [if_neg (by omega)]
    have w0 : width 0 = 1 := rfl
    have e1 : (e :: l).flatMap C = CK e.1 ++ (E e.2 :: l.flatMap C) := by rw [List.flatMap_cons, hC]; simp
    simp only [List.length_cons, entV, e1, w1, w0]
    have d1 : (CK e.1 ++ E e.2 :: l.flatMap C).drop K = E e.2 :: l.flatMap C := List.drop_left' (hl _)
    have d2 : (CK e.1 ++ E e.2 :: l.flatMap C).drop (K + 1) = l.flatMap C := by rw [← List.drop_drop, d1]; rfl
    rw [List.take_left' (hl _), d1, d2, ent_flat hC hl h0 l, List.map_cons]
    have hK : K ≠ 0 := by omega
    simp [mkSh, hK]
theorem flat_pairs (hC : ∀ e, C e = CK e.1 ++ [E e.2]) (hE : ∀ b, (E b).one = true) (l : List (α × β)) : flatE (l.map fun e => (V.agg (CK e.1), E e.2)) = l.flatMap C := by
  have hc : ∀ b, (E b).cells = [E b] := fun b => by have := hE b; generalize E b = y at this ⊢; cases y <;> first | rfl | simp [V.one] at this
  have ha : ∀ cs : List V, (V.agg cs).cells = cs := fun _ => rfl
  simp only [flatE, List.flatMap_map, ha, hc]
  exact congrArg (fun f => List.flatMap f l) (funext fun e => (hC e).symm)
theorem flat_lenP (hC : ∀ e, C e = CK e.1 ++ [E e.2]) (hl : ∀ a, (CK a).length = K) : ∀ l : List (α × β), (l.flatMap C).length = l.length * (K + 1)
  | [] => by simp
  | e :: l => by rw [List.flatMap_cons, List.length_append, flat_lenP hC hl l, hC]; simp [hl, Nat.add_mul]; omega
theorem keys_flat (hv : ∀ a, toVal (.agg (CK a)) = some (VK a)) : ∀ l : List (α × β), (l.map fun e => (V.agg (CK e.1), E e.2)).mapM (fun e => toVal e.1) = some (l.map fun e => VK e.1)
  | [] => rfl
  | e :: l => by simp only [List.map_cons, List.mapM_cons, hv, keys_flat hv l]; rfl
theorem find_flat (hk : KeyOk P kt VK eq) (k : α) : ∀ l : List (α × β), findIx P kt (VK k) (l.map fun e => VK e.1) = some (mfind eq l k)
  | [] => rfl
  | e :: l => by
    simp only [List.map_cons, findIx, hk.equal, mfind, List.findIdx?_cons]
    cases eq k e.1 with
    | true => rfl
    | false =>
      have := find_flat hk k l
      simp only [mfind] at this
      simp [this]
variable {t : TypeId} {m : MT} {h h' : Hp} {b : Nat}
theorem mapAt_flat (hC : ∀ e, C e = CK e.1 ++ [E e.2]) (hl : ∀ a, (CK a).length = K) (h0 : 0 < K) (hm : mapTy P t = some m) (hK : shN m.dk = K) (hL : shN m.de = 0) (hb : h[b]? = some (some ⟨m.code, l.flatMap C⟩)) :
    mapAt P t h (.mp b) = some ⟨m, b, ⟨m.code, l.flatMap C⟩, l.map fun e => (V.agg (CK e.1), E e.2)⟩ := by
  have w1 : width K = K := by unfold width; rw [if_neg (by omega)]
  have w0 : width 0 = 1 := rfl
  simp only [mapAt, hm, hb, if_true, hK, hL, w1, w0, flat_lenP hC hl]
  rw [Nat.mul_div_cancel _ (by omega), ent_flat hC hl h0]
theorem mapFind_flat (hv : ∀ a, toVal (.agg (CK a)) = some (VK a)) (hk : KeyOk P kt VK eq) : mapFind P kt (l.map fun e => (V.agg (CK e.1), E e.2)) (.agg (CK k)) = some (VK k, l.map (fun e => VK e.1), mfind eq l k) := by
  simp only [mapFind, hv, keys_flat hv, hk.check, find_flat hk]
theorem lkM {z : β} (hC : ∀ e, C e = CK e.1 ++ [E e.2]) (hl : ∀ a, (CK a).length = K) (h0 : 0 < K) (hv : ∀ a, toVal (.agg (CK a)) = some (VK a)) (hm : mapTy P t = some m) (hk : KeyOk P m.kt VK eq) (hK : shN m.dk = K) (hL : shN m.de = 0) (hz : ofValue m.de.zero = E z) (hb : h[b]? = some (some ⟨m.code, l.flatMap C⟩)) :
    lookupV P t h (.mp b) (.agg (CK k)) false = some (E (mget eq l k z)) := by
  simp only [lookupV, mapAt_flat hC hl h0 hm hK hL hb, mapFind_flat hv hk, mget]
  cases hf : mfind eq l k with
  | none => simp [hz]
  | some i =>
    have hi : i < l.length := (List.findIdx?_eq_some_iff_getElem.1 hf).1
    simp [hi]
theorem lkMo {z : β} (hC : ∀ e, C e = CK e.1 ++ [E e.2]) (hl : ∀ a, (CK a).length = K) (h0 : 0 < K) (hv : ∀ a, toVal (.agg (CK a)) = some (VK a)) (hm : mapTy P t = some m) (hk : KeyOk P m.kt VK eq) (hK : shN m.dk = K) (hL : shN m.de = 0) (hz : ofValue m.de.zero = E z) (hb : h[b]? = some (some ⟨m.code, l.flatMap C⟩)) :
    lookupV P t h (.mp b) (.agg (CK k)) true = some (.tup [E (mget eq l k z), eB (mhas eq l k)]) := by
  simp only [lookupV, mapAt_flat hC hl h0 hm hK hL hb, mapFind_flat hv hk, mget, mhas]
  cases hf : mfind eq l k with
  | none => simp [hz]
  | some i =>
    have hi : i < l.length := (List.findIdx?_eq_some_iff_getElem.1 hf).1
    simp [hi]
theorem upM (hC : ∀ e, C e = CK e.1 ++ [E e.2]) (hl : ∀ a, (CK a).length = K) (h0 : 0 < K) (h1 : ∀ a, (CK a).all V.one = true) (hE : ∀ b, (E b).one = true) (hv : ∀ a, toVal (.agg (CK a)) = some (VK a)) (hm : mapTy P t = some m) (hk : KeyOk P m.kt VK eq) (hK : shN m.dk = K) (hL : shN m.de = 0) (hb : h[b]? = some (some ⟨m.code, l.flatMap C⟩)) (hh : h.set b (some ⟨m.code, (mput eq l k v).flatMap C⟩) = h') :
    updV P t h (.mp b) (.agg (CK k)) (E v) = some h' := by
  subst hh
  have hKn : K ≠ 0 := by omega
  have s1 : isSh K (.agg (CK k)) = true := by simp [isSh, V.flatOk, V.cells, h1, hKn, hl]
  have hc : ∀ b, (E b).cells = [E b] := fun b => by have := hE b; generalize E b = y at this ⊢; cases y <;> first | rfl | simp [V.one] at this
  have s2 : isSh 0 (E v) = true := by simp [isSh, V.flatOk, hc, hE]
  simp only [updV, mapAt_flat hC hl h0 hm hK hL hb, hK, hL, s1, s2, Bool.and_self, if_true, mapFind_flat hv hk, mput]
  cases hf : mfind eq l k with
  | none =>
    have ha : ∀ cs : List V, (V.agg cs).cells = cs := fun _ => rfl
    simp only [List.flatMap_append, List.flatMap_cons, List.flatMap_nil, hC, ha, hc, List.append_nil]
  | some i =>
    obtain ⟨hi, hp, _⟩ := List.findIdx?_eq_some_iff_getElem.1 hf
    have hst : staysV (l.map fun e => VK e.1) i (VK k) = true := by
      simp only [staysV, List.getElem?_map, List.getElem?_eq_getElem hi, Option.map_some, Option.any_some]
      exact hk.stays _ _ hp
    simp only [hst, if_true]
    rw [← flat_pairs hC hE (l.set i (k, v)), List.map_set]
theorem lkM' {z : β} {e : Nat} (he : m.code = e) (hC : ∀ e, C e = CK e.1 ++ [E e.2]) (hl : ∀ a, (CK a).length = K) (h0 : 0 < K) (hv : ∀ a, toVal (.agg (CK a)) = some (VK a)) (hm : mapTy P t = some m) (hk : KeyOk P m.kt VK eq) (hK : shN m.dk = K) (hL : shN m.de = 0) (hz : ofValue m.de.zero = E z) (hb : h[b]? = some (some ⟨e, l.flatMap C⟩)) :
    lookupV P t h (.mp b) (.agg (CK k)) false = some (E (mget eq l k z)) := by
  subst he; exact lkM hC hl h0 hv hm hk hK hL hz hb
theorem lkMo' {z : β} {e : Nat} (he : m.code = e) (hC : ∀ e, C e = CK e.1 ++ [E e.2]) (hl : ∀ a, (CK a).length = K) (h0 : 0 < K) (hv : ∀ a, toVal (.agg (CK a)) = some (VK a)) (hm : mapTy P t = some m) (hk : KeyOk P m.kt VK eq) (hK : shN m.dk = K) (hL : shN m.de = 0) (hz : ofValue m.de.zero = E z) (hb : h[b]? = some (some ⟨e, l.flatMap C⟩)) :
    lookupV P t h (.mp b) (.agg (CK k)) true = some (.tup [E (mget eq l k z), eB (mhas eq l k)]) := by
  subst he; exact lkMo hC hl h0 hv hm hk hK hL hz hb
theorem upM' {e : Nat} (he : m.code = e) (hC : ∀ e, C e = CK e.1 ++ [E e.2]) (hl : ∀ a, (CK a).length = K) (h0 : 0 < K) (h1 : ∀ a, (CK a).all V.one = true) (hE : ∀ b, (E b).one = true) (hv : ∀ a, toVal (.agg (CK a)) = some (VK a)) (hm : mapTy P t = some m) (hk : KeyOk P m.kt VK eq) (hK : shN m.dk = K) (hL : shN m.de = 0) (hb : h[b]? = some (some ⟨e, l.flatMap C⟩)) (hh : h.set b (some ⟨e, (mput eq l k v).flatMap C⟩) = h') :
    updV P t h (.mp b) (.agg (CK k)) (E v) = some h' := by
  subst he; exact upM hC hl h0 h1 hE hv hm hk hK hL hb hh
def vals (cs : List V) : List Value := (cs.mapM cellVal).getD []
end
section
variable {P : Program} {O : Orc} {n : Nat} {fr : List (Nat × V)} {h h' : Hp} {ty : TypeId} {pos : String} {aft : Array Edge} {v : V} {d : Option Tmp} {g : Option (Nat × Bool)} {x y z : Operand} {a b c : V} {t : TypeId}
theorem d_mkmap {m : MT} {i : Nat} {e : Nat} (hm : mapTy P t = some m) (he : m.code = e) (hl : h.length = i) (hh : h ++ [some ⟨e, []⟩] = h') : absOp P O ⟨d, .makeMap t none, ty, pos, aft, g⟩ (mkF n fr) h = some (.mp i, h') := by
  subst hl hh he
  simp [absOp, makeMapV, hm]
theorem d_lk {ok : Bool} (hx : evF n fr x = some a) (hy : evF n fr y = some b) (hv : lookupV P t h a b ok = some v) : absOp P O ⟨d, .lookup t x y ok, ty, pos, aft, g⟩ (mkF n fr) h = some (v, h) := by simp [absOp, evF_ev hx, evF_ev hy, hv]
theorem d_upd (hx : evF n fr x = some a) (hy : evF n fr y = some b) (hz : evF n fr z = some c) (hv : updV P t h a b c = some h') : absOp P O ⟨d, .mapUpdate t x y z, ty, pos, aft, g⟩ (mkF n fr) h = some (.sc undef, h') := by simp [absOp, evF_ev hx, evF_ev hy, evF_ev hz, hv]
end
theorem range_getD {E : Int → V} {n : Nat} {l : List Int} (h : l.length = n) : (List.range n).map (fun i => E (l.getD i 0)) = l.map E := by
  apply List.ext_getElem?
  intro i
  simp only [List.getElem?_map, List.getElem?_range']
  by_cases hi : i < n
  · rw [List.getElem?_range hi, List.getElem?_eq_getElem (by omega)]
    simp [List.getD_eq_getElem?_getD, List.getElem?_eq_getElem (show i < l.length by omega)]
  · rw [List.getElem?_eq_none (by simpa using hi), List.getElem?_eq_none (by omega)]; rfl
theorem range_all {n : Nat} {a b : List Int} (ha : a.length = n) (hb : b.length = n) : (List.range n).all (fun i => a.getD i 0 == b.getD i 0) = (a == b) := by
  rw [Bool.eq_iff_iff]
  simp only [List.all_eq_true, List.mem_range, beq_iff_eq]
  constructor
  · intro h
    apply List.ext_getElem (by omega)
    intro i h1 h2
    have := h i (by omega)
    simpa [List.getD_eq_getElem?_getD, List.getElem?_eq_getElem h1, List.getElem?_eq_getElem h2] using this
  · rintro rfl i _; rfl
theorem bldE {P : Program} {t : TypeId} {ps ps' : List (Nat × V)} {v : V} (h : ps = ps') (hb : buildV P t ps' = some v) : buildV P t ps = some v := by rw [h]; exact hb
def ar4 (E : Int → V) (l : List Int) (r : List V) : List V := E (l.getD 0 0) :: E (l.getD 1 0) :: E (l.getD 2 0) :: E (l.getD 3 0) :: r
theorem ar4_map {E : Int → V} {l : List Int} (h : l.length = 4) (r : List V) : ar4 E l r = l.map E ++ r := by
  rw [← range_getD h]; rfl
theorem ar4_nil {E : Int → V} {l : List Int} (h : l.length = 4) : ar4 E l [] = l.map E := by rw [ar4_map h]; simp
theorem to4 {P : Program} {E : Int → V} {l : List Int} {t : TypeId} {cs : List V} (h : l.length = 4) (hp : partV P t cs = some (.agg (ar4 E l []))) : partV P t cs = some (.agg (l.map E)) := by rw [hp, ar4_nil h]
theorem stE4 {P : Program} {E : Int → V} {l : List Int} {t : TypeId} {h h' : Hp} {a : V} (q : l.length = 4) (hp : storeV P t h a (.agg (ar4 E l [])) = some h') : storeV P t h a (.agg (l.map E)) = some h' := by rw [← ar4_nil q]; exact hp
theorem rns_ar4 {f : Nat → Nat} {k : IntKind} {l : List Int} {r : List V} : V.rns f (ar4 (eI k) l r) = ar4 (eI k) l (V.rns f r) := rfl
theorem les_ar4 {vn : Nat → Bool} {E : Int → V} {l : List Int} {r r' : List V} (hr : V.les vn r r') : V.les vn (ar4 E l r) (ar4 E l r') := by
  unfold ar4
  repeat (first | exact hr | refine V.les_cons (V.le_refl _ _) ?_)
theorem cvs_ar4 {h h' : Hp} {E : Int → V} {l : List Int} {r r' : List V} (hE : ∀ x, Conv h h' (E x) (E x)) (hr : Convs h h' r r') : Convs h h' (ar4 E l r) (ar4 E l r') := by
  unfold ar4
  repeat (first | exact hr | refine Convs.cons (hE _) ?_)
def aeq4 (a b : List Int) (r : Bool) : Bool := ((a.getD 0 0 == b.getD 0 0) && ((a.getD 1 0 == b.getD 1 0) && ((a.getD 2 0 == b.getD 2 0) && ((a.getD 3 0 == b.getD 3 0) && r))))
theorem aeq4_iff {a b : List Int} (ha : a.length = 4) (hb : b.length = 4) (r : Bool) : aeq4 a b r = ((a == b) && r) := by
  have e : aeq4 a b r = ((List.range 4).all (fun i => a.getD i 0 == b.getD i 0) && r) := by
    simp only [aeq4, show List.range 4 = [0, 1, 2, 3] from rfl, List.all_cons, List.all_nil, Bool.and_assoc, Bool.true_and, Bool.and_true]
  rw [e, range_all ha hb]
def ar8 (E : Int → V) (l : List Int) (r : List V) : List V := E (l.getD 0 0) :: E (l.getD 1 0) :: E (l.getD 2 0) :: E (l.getD 3 0) :: E (l.getD 4 0) :: E (l.getD 5 0) :: E (l.getD 6 0) :: E (l.getD 7 0) :: r
theorem ar8_map {E : Int → V} {l : List Int} (h : l.length = 8) (r : List V) : ar8 E l r = l.map E ++ r := by
  rw [← range_getD h]; rfl
theorem ar8_nil {E : Int → V} {l : List Int} (h : l.length = 8) : ar8 E l [] = l.map E := by rw [ar8_map h]; simp
theorem to8 {P : Program} {E : Int → V} {l : List Int} {t : TypeId} {cs : List V} (h : l.length = 8) (hp : partV P t cs = some (.agg (ar8 E l []))) : partV P t cs = some (.agg (l.map E)) := by rw [hp, ar8_nil h]
theorem stE8 {P : Program} {E : Int → V} {l : List Int} {t : TypeId} {h h' : Hp} {a : V} (q : l.length = 8) (hp : storeV P t h a (.agg (ar8 E l [])) = some h') : storeV P t h a (.agg (l.map E)) = some h' := by rw [← ar8_nil q]; exact hp
theorem rns_ar8 {f : Nat → Nat} {k : IntKind} {l : List Int} {r : List V} : V.rns f (ar8 (eI k) l r) = ar8 (eI k) l (V.rns f r) := rfl
theorem les_ar8 {vn : Nat → Bool} {E : Int → V} {l : List Int} {r r' : List V} (hr : V.les vn r r') : V.les vn (ar8 E l r) (ar8 E l r') := by
  unfold ar8
  repeat (first | exact hr | refine V.les_cons (V.le_refl _ _) ?_)
theorem cvs_ar8 {h h' : Hp} {E : Int → V} {l : List Int} {r r' : List V} (hE : ∀ x, Conv h h' (E x) (E x)) (hr : Convs h h' r r') : Convs h h' (ar8 E l r) (ar8 E l r') := by
  unfold ar8
  repeat (first | exact hr | refine Convs.cons (hE _) ?_)
def aeq8 (a b : List Int) (r : Bool) : Bool := ((a.getD 0 0 == b.getD 0 0) && ((a.getD 1 0 == b.getD 1 0) && ((a.getD 2 0 == b.getD 2 0) && ((a.getD 3 0 == b.getD 3 0) && ((a.getD 4 0 == b.getD 4 0) && ((a.getD 5 0 == b.getD 5 0) && ((a.getD 6 0 == b.getD 6 0) && ((a.getD 7 0 == b.getD 7 0) && r))))))))
theorem aeq8_iff {a b : List Int} (ha : a.length = 8) (hb : b.length = 8) (r : Bool) : aeq8 a b r = ((a == b) && r) := by
  have e : aeq8 a b r = ((List.range 8).all (fun i => a.getD i 0 == b.getD i 0) && r) := by
    simp only [aeq8, show List.range 8 = [0, 1, 2, 3, 4, 5, 6, 7] from rfl, List.all_cons, List.all_nil, Bool.and_assoc, Bool.true_and, Bool.and_true]
  rw [e, range_all ha hb]
def ar20 (E : Int → V) (l : List Int) (r : List V) : List V := E (l.getD 0 0) :: E (l.getD 1 0) :: E (l.getD 2 0) :: E (l.getD 3 0) :: E (l.getD 4 0) :: E (l.getD 5 0) :: E (l.getD 6 0) :: E (l.getD 7 0) :: E (l.getD 8 0) :: E (l.getD 9 0) :: E (l.getD 10 0) :: E (l.getD 11 0) :: E (l.getD 12 0) :: E (l.getD 13 0) :: E (l.getD 14 0) :: E (l.getD 15 0) :: E (l.getD 16 0) :: E (l.getD 17 0) :: E (l.getD 18 0) :: E (l.getD 19 0) :: r
theorem ar20_map {E : Int → V} {l : List Int} (h : l.length = 20) (r : List V) : ar20 E l r = l.map E ++ r := by
  rw [← range_getD h]; rfl
theorem ar20_nil {E : Int → V} {l : List Int} (h : l.length = 20) : ar20 E l [] = l.map E := by rw [ar20_map h]; simp
theorem to20 {P : Program} {E : Int → V} {l : List Int} {t : TypeId} {cs : List V} (h : l.length = 20) (hp : partV P t cs = some (.agg (ar20 E l []))) : partV P t cs = some (.agg (l.map E)) := by rw [hp, ar20_nil h]
theorem stE20 {P : Program} {E : Int → V} {l : List Int} {t : TypeId} {h h' : Hp} {a : V} (q : l.length = 20) (hp : storeV P t h a (.agg (ar20 E l [])) = some h') : storeV P t h a (.agg (l.map E)) = some h' := by rw [← ar20_nil q]; exact hp
theorem rns_ar20 {f : Nat → Nat} {k : IntKind} {l : List Int} {r : List V} : V.rns f (ar20 (eI k) l r) = ar20 (eI k) l (V.rns f r) := rfl
theorem les_ar20 {vn : Nat → Bool} {E : Int → V} {l : List Int} {r r' : List V} (hr : V.les vn r r') : V.les vn (ar20 E l r) (ar20 E l r') := by
  unfold ar20
  repeat (first | exact hr | refine V.les_cons (V.le_refl _ _) ?_)
theorem cvs_ar20 {h h' : Hp} {E : Int → V} {l : List Int} {r r' : List V} (hE : ∀ x, Conv h h' (E x) (E x)) (hr : Convs h h' r r') : Convs h h' (ar20 E l r) (ar20 E l r') := by
  unfold ar20
  repeat (first | exact hr | refine Convs.cons (hE _) ?_)
def aeq20 (a b : List Int) (r : Bool) : Bool := ((a.getD 0 0 == b.getD 0 0) && ((a.getD 1 0 == b.getD 1 0) && ((a.getD 2 0 == b.getD 2 0) && ((a.getD 3 0 == b.getD 3 0) && ((a.getD 4 0 == b.getD 4 0) && ((a.getD 5 0 == b.getD 5 0) && ((a.getD 6 0 == b.getD 6 0) && ((a.getD 7 0 == b.getD 7 0) && ((a.getD 8 0 == b.getD 8 0) && ((a.getD 9 0 == b.getD 9 0) && ((a.getD 10 0 == b.getD 10 0) && ((a.getD 11 0 == b.getD 11 0) && ((a.getD 12 0 == b.getD 12 0) && ((a.getD 13 0 == b.getD 13 0) && ((a.getD 14 0 == b.getD 14 0) && ((a.getD 15 0 == b.getD 15 0) && ((a.getD 16 0 == b.getD 16 0) && ((a.getD 17 0 == b.getD 17 0) && ((a.getD 18 0 == b.getD 18 0) && ((a.getD 19 0 == b.getD 19 0) && r))))))))))))))))))))
theorem aeq20_iff {a b : List Int} (ha : a.length = 20) (hb : b.length = 20) (r : Bool) : aeq20 a b r = ((a == b) && r) := by
  have e : aeq20 a b r = ((List.range 20).all (fun i => a.getD i 0 == b.getD i 0) && r) := by
    simp only [aeq20, show List.range 20 = [0, 1, 2, 3, 4, 5, 6, 7, 8, 9, 10, 11, 12, 13, 14, 15, 16, 17, 18, 19] from rfl, List.all_cons, List.all_nil, Bool.and_assoc, Bool.true_and, Bool.and_true]
  rw [e, range_all ha hb]
def ar32 (E : Int → V) (l : List Int) (r : List V) : List V := E (l.getD 0 0) :: E (l.getD 1 0) :: E (l.getD 2 0) :: E (l.getD 3 0) :: E (l.getD 4 0) :: E (l.getD 5 0) :: E (l.getD 6 0) :: E (l.getD 7 0) :: E (l.getD 8 0) :: E (l.getD 9 0) :: E (l.getD 10 0) :: E (l.getD 11 0) :: E (l.getD 12 0) :: E (l.getD 13 0) :: E (l.getD 14 0) :: E (l.getD 15 0) :: E (l.getD 16 0) :: E (l.getD 17 0) :: E (l.getD 18 0) :: E (l.getD 19 0) :: E (l.getD 20 0) :: E (l.getD 21 0) :: E (l.getD 22 0) :: E (l.getD 23 0) :: E (l.getD 24 0) :: E (l.getD 25 0) :: E (l.getD 26 0) :: E (l.getD 27 0) :: E (l.getD 28 0) :: E (l.getD 29 0) :: E (l.getD 30 0) :: E (l.getD 31 0) :: r
theorem ar32_map {E : Int → V} {l : List Int} (h : l.length = 32) (r : List V) : ar32 E l r = l.map E ++ r := by
  rw [← range_getD h]; rfl
theorem ar32_nil {E : Int → V} {l : List Int} (h : l.length = 32) : ar32 E l [] = l.map E := by rw [ar32_map h]; simp
theorem to32 {P : Program} {E : Int → V} {l : List Int} {t : TypeId} {cs : List V} (h : l.length = 32) (hp : partV P t cs = some (.agg (ar32 E l []))) : partV P t cs = some (.agg (l.map E)) := by rw [hp, ar32_nil h]
theorem stE32 {P : Program} {E : Int → V} {l : List Int} {t : TypeId} {h h' : Hp} {a : V} (q : l.length = 32) (hp : storeV P t h a (.agg (ar32 E l [])) = some h') : storeV P t h a (.agg (l.map E)) = some h' := by rw [← ar32_nil q]; exact hp
theorem rns_ar32 {f : Nat → Nat} {k : IntKind} {l : List Int} {r : List V} : V.rns f (ar32 (eI k) l r) = ar32 (eI k) l (V.rns f r) := rfl
theorem les_ar32 {vn : Nat → Bool} {E : Int → V} {l : List Int} {r r' : List V} (hr : V.les vn r r') : V.les vn (ar32 E l r) (ar32 E l r') := by
  unfold ar32
  repeat (first | exact hr | refine V.les_cons (V.le_refl _ _) ?_)
theorem cvs_ar32 {h h' : Hp} {E : Int → V} {l : List Int} {r r' : List V} (hE : ∀ x, Conv h h' (E x) (E x)) (hr : Convs h h' r r') : Convs h h' (ar32 E l r) (ar32 E l r') := by
  unfold ar32
  repeat (first | exact hr | refine Convs.cons (hE _) ?_)
def aeq32 (a b : List Int) (r : Bool) : Bool := ((a.getD 0 0 == b.getD 0 0) && ((a.getD 1 0 == b.getD 1 0) && ((a.getD 2 0 == b.getD 2 0) && ((a.getD 3 0 == b.getD 3 0) && ((a.getD 4 0 == b.getD 4 0) && ((a.getD 5 0 == b.getD 5 0) && ((a.getD 6 0 == b.getD 6 0) && ((a.getD 7 0 == b.getD 7 0) && ((a.getD 8 0 == b.getD 8 0) && ((a.getD 9 0 == b.getD 9 0) && ((a.getD 10 0 == b.getD 10 0) && ((a.getD 11 0 == b.getD 11 0) && ((a.getD 12 0 == b.getD 12 0) && ((a.getD 13 0 == b.getD 13 0) && ((a.getD 14 0 == b.getD 14 0) && ((a.getD 15 0 == b.getD 15 0) && ((a.getD 16 0 == b.getD 16 0) && ((a.getD 17 0 == b.getD 17 0) && ((a.getD 18 0 == b.getD 18 0) && ((a.getD 19 0 == b.getD 19 0) && ((a.getD 20 0 == b.getD 20 0) && ((a.getD 21 0 == b.getD 21 0) && ((a.getD 22 0 == b.getD 22 0) && ((a.getD 23 0 == b.getD 23 0) && ((a.getD 24 0 == b.getD 24 0) && ((a.getD 25 0 == b.getD 25 0) && ((a.getD 26 0 == b.getD 26 0) && ((a.getD 27 0 == b.getD 27 0) && ((a.getD 28 0 == b.getD 28 0) && ((a.getD 29 0 == b.getD 29 0) && ((a.getD 30 0 == b.getD 30 0) && ((a.getD 31 0 == b.getD 31 0) && r))))))))))))))))))))))))))))))))
theorem aeq32_iff {a b : List Int} (ha : a.length = 32) (hb : b.length = 32) (r : Bool) : aeq32 a b r = ((a == b) && r) := by
  have e : aeq32 a b r = ((List.range 32).all (fun i => a.getD i 0 == b.getD i 0) && r) := by
    simp only [aeq32, show List.range 32 = [0, 1, 2, 3, 4, 5, 6, 7, 8, 9, 10, 11, 12, 13, 14, 15, 16, 17, 18, 19, 20, 21, 22, 23, 24, 25, 26, 27, 28, 29, 30, 31] from rfl, List.all_cons, List.all_nil, Bool.and_assoc, Bool.true_and, Bool.and_true]
  rw [e, range_all ha hb]
def ar64 (E : Int → V) (l : List Int) (r : List V) : List V := E (l.getD 0 0) :: E (l.getD 1 0) :: E (l.getD 2 0) :: E (l.getD 3 0) :: E (l.getD 4 0) :: E (l.getD 5 0) :: E (l.getD 6 0) :: E (l.getD 7 0) :: E (l.getD 8 0) :: E (l.getD 9 0) :: E (l.getD 10 0) :: E (l.getD 11 0) :: E (l.getD 12 0) :: E (l.getD 13 0) :: E (l.getD 14 0) :: E (l.getD 15 0) :: E (l.getD 16 0) :: E (l.getD 17 0) :: E (l.getD 18 0) :: E (l.getD 19 0) :: E (l.getD 20 0) :: E (l.getD 21 0) :: E (l.getD 22 0) :: E (l.getD 23 0) :: E (l.getD 24 0) :: E (l.getD 25 0) :: E (l.getD 26 0) :: E (l.getD 27 0) :: E (l.getD 28 0) :: E (l.getD 29 0) :: E (l.getD 30 0) :: E (l.getD 31 0) :: E (l.getD 32 0) :: E (l.getD 33 0) :: E (l.getD 34 0) :: E (l.getD 35 0) :: E (l.getD 36 0) :: E (l.getD 37 0) :: E (l.getD 38 0) :: E (l.getD 39 0) :: E (l.getD 40 0) :: E (l.getD 41 0) :: E (l.getD 42 0) :: E (l.getD 43 0) :: E (l.getD 44 0) :: E (l.getD 45 0) :: E (l.getD 46 0) :: E (l.getD 47 0) :: E (l.getD 48 0) :: E (l.getD 49 0) :: E (l.getD 50 0) :: E (l.getD 51 0) :: E (l.getD 52 0) :: E (l.getD 53 0) :: E (l.getD 54 0) :: E (l.getD 55 0) :: E (l.getD 56 0) :: E (l.getD 57 0) :: E (l.getD 58 0) :: E (l.getD 59 0) :: E (l.getD 60 0) :: E (l.getD 61 0) :: E (l.getD 62 0) :: E (l.getD 63 0) :: r
theorem ar64_map {E : Int → V} {l : List Int} (h : l.length = 64) (r : List V) : ar64 E l r = l.map E ++ r := by
  rw [← range_getD h]; rfl
theorem ar64_nil {E : Int → V} {l : List Int} (h : l.length = 64) : ar64 E l [] = l.map E := by rw [ar64_map h]; simp
theorem to64 {P : Program} {E : Int → V} {l : List Int} {t : TypeId} {cs : List V} (h : l.length = 64) (hp : partV P t cs = some (.agg (ar64 E l []))) : partV P t cs = some (.agg (l.map E)) := by rw [hp, ar64_nil h]
theorem stE64 {P : Program} {E : Int → V} {l : List Int} {t : TypeId} {h h' : Hp} {a : V} (q : l.length = 64) (hp : storeV P t h a (.agg (ar64 E l [])) = some h') : storeV P t h a (.agg (l.map E)) = some h' := by rw [← ar64_nil q]; exact hp
theorem rns_ar64 {f : Nat → Nat} {k : IntKind} {l : List Int} {r : List V} : V.rns f (ar64 (eI k) l r) = ar64 (eI k) l (V.rns f r) := rfl
theorem les_ar64 {vn : Nat → Bool} {E : Int → V} {l : List Int} {r r' : List V} (hr : V.les vn r r') : V.les vn (ar64 E l r) (ar64 E l r') := by
  unfold ar64
  repeat (first | exact hr | refine V.les_cons (V.le_refl _ _) ?_)
theorem cvs_ar64 {h h' : Hp} {E : Int → V} {l : List Int} {r r' : List V} (hE : ∀ x, Conv h h' (E x) (E x)) (hr : Convs h h' r r') : Convs h h' (ar64 E l r) (ar64 E l r') := by
  unfold ar64
  repeat (first | exact hr | refine Convs.cons (hE _) ?_)
def aeq64 (a b : List Int) (r : Bool) : Bool := ((a.getD 0 0 == b.getD 0 0) && ((a.getD 1 0 == b.getD 1 0) && ((a.getD 2 0 == b.getD 2 0) && ((a.getD 3 0 == b.getD 3 0) && ((a.getD 4 0 == b.getD 4 0) && ((a.getD 5 0 == b.getD 5 0) && ((a.getD 6 0 == b.getD 6 0) && ((a.getD 7 0 == b.getD 7 0) && ((a.getD 8 0 == b.getD 8 0) && ((a.getD 9 0 == b.getD 9 0) && ((a.getD 10 0 == b.getD 10 0) && ((a.getD 11 0 == b.getD 11 0) && ((a.getD 12 0 == b.getD 12 0) && ((a.getD 13 0 == b.getD 13 0) && ((a.getD 14 0 == b.getD 14 0) && ((a.getD 15 0 == b.getD 15 0) && ((a.getD 16 0 == b.getD 16 0) && ((a.getD 17 0 == b.getD 17 0) && ((a.getD 18 0 == b.getD 18 0) && ((a.getD 19 0 == b.getD 19 0) && ((a.getD 20 0 == b.getD 20 0) && ((a.getD 21 0 == b.getD 21 0) && ((a.getD 22 0 == b.getD 22 0) && ((a.getD 23 0 == b.getD 23 0) && ((a.getD 24 0 == b.getD 24 0) && ((a.getD 25 0 == b.getD 25 0) && ((a.getD 26 0 == b.getD 26 0) && ((a.getD 27 0 == b.getD 27 0) && ((a.getD 28 0 == b.getD 28 0) && ((a.getD 29 0 == b.getD 29 0) && ((a.getD 30 0 == b.getD 30 0) && ((a.getD 31 0 == b.getD 31 0) && ((a.getD 32 0 == b.getD 32 0) && ((a.getD 33 0 == b.getD 33 0) && ((a.getD 34 0 == b.getD 34 0) && ((a.getD 35 0 == b.getD 35 0) && ((a.getD 36 0 == b.getD 36 0) && ((a.getD 37 0 == b.getD 37 0) && ((a.getD 38 0 == b.getD 38 0) && ((a.getD 39 0 == b.getD 39 0) && ((a.getD 40 0 == b.getD 40 0) && ((a.getD 41 0 == b.getD 41 0) && ((a.getD 42 0 == b.getD 42 0) && ((a.getD 43 0 == b.getD 43 0) && ((a.getD 44 0 == b.getD 44 0) && ((a.getD 45 0 == b.getD 45 0) && ((a.getD 46 0 == b.getD 46 0) && ((a.getD 47 0 == b.getD 47 0) && ((a.getD 48 0 == b.getD 48 0) && ((a.getD 49 0 == b.getD 49 0) && ((a.getD 50 0 == b.getD 50 0) && ((a.getD 51 0 == b.getD 51 0) && ((a.getD 52 0 == b.getD 52 0) && ((a.getD 53 0 == b.getD 53 0) && ((a.getD 54 0 == b.getD 54 0) && ((a.getD 55 0 == b.getD 55 0) && ((a.getD 56 0 == b.getD 56 0) && ((a.getD 57 0 == b.getD 57 0) && ((a.getD 58 0 == b.getD 58 0) && ((a.getD 59 0 == b.getD 59 0) && ((a.getD 60 0 == b.getD 60 0) && ((a.getD 61 0 == b.getD 61 0) && ((a.getD 62 0 == b.getD 62 0) && ((a.getD 63 0 == b.getD 63 0) && r))))))))))))))))))))))))))))))))))))))))))))))))))))))))))))))))
theorem aeq64_iff {a b : List Int} (ha : a.length = 64) (hb : b.length = 64) (r : Bool) : aeq64 a b r = ((a == b) && r) := by
  have e : aeq64 a b r = ((List.range 64).all (fun i => a.getD i 0 == b.getD i 0) && r) := by
    simp only [aeq64, show List.range 64 = [0, 1, 2, 3, 4, 5, 6, 7, 8, 9, 10, 11, 12, 13, 14, 15, 16, 17, 18, 19, 20, 21, 22, 23, 24, 25, 26, 27, 28, 29, 30, 31, 32, 33, 34, 35, 36, 37, 38, 39, 40, 41, 42, 43, 44, 45, 46, 47, 48, 49, 50, 51, 52, 53, 54, 55, 56, 57, 58, 59, 60, 61, 62, 63] from rfl, List.all_cons, List.all_nil, Bool.and_assoc, Bool.true_and, Bool.and_true]
  rw [e, range_all ha hb]
theorem un_neg {P : Program} (k : IntKind) (n : Int) : unV P .neg (.sc (.int k n)) = some (.sc (.int k (k.wrap (0 - n)))) := rfl
theorem un_xorU {P : Program} {k : IntKind} (hk : k.signed = false) (n : Int) : unV P .xor (.sc (.int k n)) = some (.sc (.int k (bits .xor k k.max n))) := by
  cases k <;> first | rfl | cases hk
def mkl {α : Type} (by_ : Nat) (z : α) (n c : Int) : Option (List α) := if 0 < n ∧ n ≤ c ∧ c.toNat * by_ ≤ lim then some (List.replicate n.toNat z) else none
theorem mkL {k1 k2 : IntKind} {P : Program} {h h' : Hp} {t e : TypeId} {ti : TI} {i : Nat} {α : Type} {E : α → V} {sz by_ : Nat} {z : Value} {ag : Bool} {j c : Int} {y : α} (ht : tiOf P t = some ⟨.slice e, sz, by_, z⟩) (he : tiOf P e = some ti) (h1 : 1 ≤ ti.bytes ∧ ti.size = 1 ∧ ti.zero.cells.size = 1) (hz : ti.zero.cells.toList.map ofCell = [E y]) (ho : (E y).one = true) (hag : isAggD ti.desc = ag) {r : List α}
    (hm : mkl ti.bytes y j c = some r) (hl : h.length = i) (hh : h ++ [some ⟨e, r.map E⟩] = h') : makeV P t (.sc (.int k1 j)) (.sc (.int k2 c)) h = some (.sl i 0 r.length 1 ag, h') := by
  obtain ⟨h2, h3, h4⟩ := h1
  unfold mkl at hm
  split at hm
  · rename_i hlim
    injection hm with hm
    subst hm hl hh hag
    simp only [makeV, ht, he]
    rw [if_pos ⟨by omega, hlim.2.1, hlim.2.2, h2, by omega, by rw [h4, h3], by rw [hz]; simp [ho]⟩, hz, if_neg (by omega)]
    simp only [h3]
    have : ∀ n, (List.replicate n [E y]).flatten = (List.replicate n y).map E := fun n => by
      induction n with
      | zero => rfl
      | succ n ih => simp only [List.replicate_succ, List.flatten_cons, ih, List.map_cons]; rfl
    rw [this]; simp
  · cases hm
end Go.Vm
set_option linter.unusedSimpArgs false
set_option linter.unusedVariables false
namespace Go.Vm
open Go
theorem zl {a b : Nat} (h : Nat.ble a b = true := by rfl) : a ≤ b := Nat.le_of_ble_eq_true h
theorem zR {p : Prop} (h : p := by first | rfl | (simp only [V.rn, V.rns, rns_eI, rns_eB] <;> rfl)) : p := h
theorem zF {p : Prop} (h : p := by first | rfl | simp [V.rf, V.rfs, rfs_eI, rfs_eB]) : p := h
section
variable {P : Program} {ops : Array Oper} {l : List Oper} {n N : Nat} {fr : List (Nat × V)} {h h' : Hp} {K : List V → Hp → Prop} {op : Op} {ty : TypeId} {pos : String} {aft : Array Edge} {t : Nat} {v a b : V} {x y : Operand} {d : Option Tmp} {g : Option (Nat × Bool)} {s s' : List V} {Q : Ex → List V → Hp → Prop}
theorem zw (hd : absOp P O0 ⟨some t, op, ty, pos, aft, none⟩ (mkF n fr) h = some (v, h')) (k : OpsW P N ops l (mkF n ((t, v) :: fr)) h' K) : OpsW P N ops (⟨some t, op, ty, pos, aft, none⟩ :: l) (mkF n fr) h K := wS (sv hd) k
theorem zm (hx : evF n fr x = some a) (k : OpsW P N ops l (mkF n ((t, a) :: fr)) h K) : OpsW P N ops (⟨some t, .move x, ty, pos, aft, none⟩ :: l) (mkF n fr) h K := wS (sv (d_move hx)) k
theorem za (hx : evF n fr x = some a) (k : OpsW P N ops l (mkF n ((t, a) :: fr)) h K) : OpsW P N ops (⟨some t, .assign x, ty, pos, aft, none⟩ :: l) (mkF n fr) h K := wS (sv (d_assign hx)) k
theorem zn {K' : List V → Hp → Prop} (hk : K' s h) : OpsW P N ops [] s h (Ex.then K' Q .normal) := OpsW.nil (Ex.then_mk hk)
theorem zq {c : Code} {id : Nat} (hr : OpsW P N l.toArray l s h (Ex.then (AB P N c Q) Q .normal)) : AB P N (.seq (.region id l.toArray false) c) Q s h := AB.seq (AB.rw hr)
end
theorem zG {N n : Nat} {fr fr' : List (Nat × V)} {h h' : Hp} (σ : List Nat)
    (hf : FLe noN (V.rn (sg σ h.length)) fr fr' := by repeat (first | exact FLe.nil | refine FLe.same rfl ?_ | refine FLe.le rfl V.le_nil ?_ | refine FLe.le rfl V.le_row ?_ | refine FLe.le rfl (V.le_arr (fun _ => rfl)) ?_))
    (hh : HLe (sg σ h.length) h σ h' := by repeat (first | exact HLe.nil | refine HLe.dead ?_ | refine HLe.live rfl V.les_nil rfl ?_ | refine HLe.live rfl (les_map (fun _ => rfl) _) (all_map (fun _ => rfl) _) ?_ | refine HLe.live rfl (les_flat (fun _ => rfl) _) (all_flat (fun _ => rfl) _) ?_ | refine HLe.live rfl (V.les_refl _ _) rfl ?_))
    (hσ : σ.take N = List.range N := by rfl) (hlt : σ.all (fun b => Nat.blt b h.length) = true := by rfl) (hnd : ndB (lvs σ h') = true := by rfl) : Ghost N (mkF n fr) h (mkF n fr') h' := Ghost.rn σ hσ hlt hf hh hnd
theorem Ghost.blk {N : Nat} {s : List V} {h : Hp} {b : Nat} {e : TypeId} {cs cs' : List V} (hb : h[b]? = some (some ⟨e, cs⟩)) (hl : V.les noN cs cs') (ho : cs'.all V.one = true) : Ghost N s h s (h.set b (some ⟨e, cs'⟩)) := by
  intro A M a w hN R
  have hbl : b < h.length := (List.getElem?_eq_some_iff.1 hb).1
  have hget : ∀ {j : Nat} {B : Blk}, (h.set b (some ⟨e, cs'⟩))[j]? = some (some B) → ∃ B0, h[j]? = some (some B0) ∧ B0.e = B.e ∧ V.les noN B0.cells B.cells ∧ (∀ c ∈ B.cells, c.one = true) := by
    intro j B hj
    by_cases hij : b = j
    · subst hij
      rw [List.getElem?_set_self hbl] at hj
      obtain rfl := Option.some.inj (Option.some.inj hj)
      exact ⟨_, hb, rfl, hl, List.all_eq_true.1 ho⟩
    · rw [List.getElem?_set_ne hij] at hj
      exact ⟨B, hj, rfl, V.les_refl _ _, (R.hr.blk j B hj).1⟩
  have hlive : ∀ g, Live M (h.set b (some ⟨e, cs'⟩)) g → Live M h g := by
    rintro g ⟨j, B, hj, hm⟩
    obtain ⟨B0, h1, _⟩ := hget hj
    exact ⟨j, B0, h1, hm⟩
  have hX : ∀ g, Xs A M (h.set b (some ⟨e, cs'⟩)) g → Xs A M h g := fun g hx => hx.elim .inl (fun hl => .inr (hlive g hl))
  refine ⟨M, rfl, ⟨⟨by rw [R.hr.len, List.length_set], R.hr.alt, ?_, ?_, R.hr.glob.avoid fun g _ hx => hX g hx⟩, ⟨R.sr.len, fun t x hx => (R.sr.val t x hx).avoid (fun g _ hx => hX g hx)⟩, R.defers⟩, hlive⟩
  · intro j B hj
    obtain ⟨B0, h1, h2, h3, h4⟩ := hget hj
    refine ⟨h4, ?_⟩
    have hlen : B0.cells.length = B.cells.length := V.les_length h3
    rcases (R.hr.blk j B0 h1).2 with ⟨hn, hc0⟩ | ⟨g, ds, hg, hA, hw, hle, hcs⟩
    · exact .inl ⟨hn, List.eq_nil_of_length_eq_zero (by rw [← hlen, hc0]; rfl)⟩
    · refine .inr ⟨g, ds, hg, hA, by rw [← h2, ← hlen]; exact hw, by rw [← hlen]; exact hle, ?_⟩
      rw [← hlen]
      exact (V.les_sound (fun _ hb => by cases hb) _ _ _ h3 hcs).avoid (fun g _ hx => hX g hx)
  · intro i j B C g hi hj mi mj
    obtain ⟨B1, h1, _⟩ := hget hi
    obtain ⟨C1, k1, _⟩ := hget hj
    exact R.hr.inj i j B1 C1 g h1 k1 mi mj
theorem V.les_app {vn : Nat → Bool} : ∀ {a a' b b' : List V}, V.les vn a a' → V.les vn b b' → V.les vn (a ++ b) (a' ++ b')
  | [], [], b, b', _, h => h
  | x :: a, y :: a', b, b', h, k => by
    unfold V.les at h
    exact V.les_cons h.1 (V.les_app h.2 k)
  | [], _ :: _, _, _, h, _ => by unfold V.les at h; exact h.elim
  | _ :: _, [], _, _, h, _ => by unfold V.les at h; exact h.elim
section
variable {α : Type} {C : α → List V} {K : Nat} {l : List α} {z z' : α} {off : Nat}
theorem splice_flat0 (hC : ∀ x, (C x).length = K) {i : Nat} (hi : l[i]? = some z) {cs : List V} (ho : off + cs.length ≤ K) : splice (l.flatMap C) (0 + i * K + off) cs = (l.take i).flatMap C ++ (splice (C z) off cs ++ (l.drop (i + 1)).flatMap C) := by
  obtain ⟨h1, h2⟩ := List.getElem?_eq_some_iff.1 hi
  have hl : l = l.take i ++ z :: l.drop (i + 1) := by rw [← h2, ← List.drop_eq_getElem_cons h1, List.take_append_drop]
  have hti : (l.take i).length = i := by rw [List.length_take]; omega
  conv => lhs; rw [hl, List.flatMap_append, List.flatMap_cons]
  have hA : ((l.take i).flatMap C).length = i * K := by rw [flat_len hC, hti]
  unfold splice
  rw [Nat.zero_add, List.take_append, List.take_of_length_le (by rw [hA]; omega), hA, show i * K + off - i * K = off by omega, List.take_append_of_le_length (by rw [hC]; omega)]
  rw [show i * K + off + cs.length = i * K + (off + cs.length) by omega, List.drop_append, List.drop_eq_nil_of_le (by rw [hA]; omega), hA, show i * K + (off + cs.length) - i * K = off + cs.length by omega, List.nil_append, List.drop_append_of_le_length (by rw [hC]; omega)]
  simp [List.append_assoc]
theorem wNK {P : Program} {ops : Array Oper} {lo : List Oper} {n N : Nat} {fr : List (Nat × V)} {h h' : Hp} {KK : List V → Hp → Prop} {ty t e : TypeId} {ti : TI} {pos : String} {aft : Array Edge} {v : V} {x y : Operand} {b : Nat} {j : Int}
    (hx : evF n fr x = some (.ptr b (0 + j.toNat * K + off))) (hy : evF n fr y = some v) (hC : ∀ x, (C x).length = K) (h1 : ∀ x, (C x).all V.one = true) (ht : tiOf P t = some ti) (hb : h[b]? = some (some ⟨e, l.flatMap C⟩)) (hi : idx l j = some z) (hf : v.flatOk = true) (hs : v.cells.length = ti.size) (ho : off + ti.size ≤ K)
    (hle : V.les noN (splice (C z) off v.cells) (C z')) (hh : h.set b (some ⟨e, (l.set j.toNat z').flatMap C⟩) = h') (k : OpsW P N ops lo (mkF n fr) h' KK) : OpsW P N ops (⟨none, .store t x y, ty, pos, aft, none⟩ :: lo) (mkF n fr) h KK := by
  obtain ⟨_, _, h3⟩ := idx_some hi
  have h4 := (List.getElem?_eq_some_iff.1 h3).1
  have hbl : b < h.length := (List.getElem?_eq_some_iff.1 hb).1
  have hst : storeV P t h (.ptr b (0 + j.toNat * K + off)) v = some (h.set b (some ⟨e, splice (l.flatMap C) (0 + j.toNat * K + off) v.cells⟩)) := by
    simp only [storeV, ht, hb]
    have hle : (j.toNat + 1) * K ≤ l.length * K := Nat.mul_le_mul_right K h4
    rw [if_pos ⟨hf, hs, by rw [flat_len hC]; rw [Nat.add_mul, Nat.one_mul] at hle; omega⟩]
  refine wN (sv (d_store hx hy hst)) (OpsW.ghost (Ghost.blk (b := b) (e := e) (cs' := (l.set j.toNat z').flatMap C) (List.getElem?_set_self hbl) ?_ (all_flat h1 _)) ?_)
  · rw [splice_flat0 hC h3 (by rw [hs]; exact ho), List.set_eq_take_append_cons_drop, if_pos h4, List.flatMap_append, List.flatMap_cons]
    exact V.les_app (V.les_refl _ _) (V.les_app hle (V.les_refl _ _))
  · rw [List.set_set, hh]; exact k
end
end Go.Vm
set_option linter.unusedVariables false
set_option linter.unusedSimpArgs false
namespace Go.Proofs.YtnoofjkaeidagaaDoor
open Go Go.Vm
structure S_api_OutPoint where
  Tx : List Int
  Index : Int
abbrev C_api_OutPoint (x : S_api_OutPoint) : List V := (ar32 (eI .u8) x.Tx [(eI .u32 x.Index)])
abbrev E_api_OutPoint (x : S_api_OutPoint) : V := .agg (C_api_OutPoint x)
@[simp] theorem rns_C_api_OutPoint {f : Nat → Nat} (l : List S_api_OutPoint) : V.rns f (l.flatMap C_api_OutPoint) = l.flatMap C_api_OutPoint := rns_flat (fun _ => rfl) l
@[simp] theorem rns_K_api_OutPoint {f : Nat → Nat} (x : S_api_OutPoint) : V.rns f (C_api_OutPoint x) = C_api_OutPoint x := rfl
structure S_api_Input where
  Prev : S_api_OutPoint
  Sequence : Int
  Witness : List (List Int)
abbrev C_api_Input (x : S_api_Input) : List V := (ar32 (eI .u8) x.Prev.Tx [(eI .u32 x.Prev.Index), (eI .u32 x.Sequence), (.row none 1 (x.Witness.map (eL 1 (eI .u8))))])
abbrev E_api_Input (x : S_api_Input) : V := .agg (C_api_Input x)
@[simp] theorem rns_C_api_Input {f : Nat → Nat} (l : List S_api_Input) : V.rns f (l.flatMap C_api_Input) = l.flatMap C_api_Input := rns_flat (fun _ => rfl) l
@[simp] theorem rns_K_api_Input {f : Nat → Nat} (x : S_api_Input) : V.rns f (C_api_Input x) = C_api_Input x := rfl
structure S_api_Output where
  Value : Int
  Script : List Int
abbrev C_api_Output (x : S_api_Output) : List V := [(eI .i64 x.Value), (.row none 1 (x.Script.map (eI .u8)))]
abbrev E_api_Output (x : S_api_Output) : V := .agg (C_api_Output x)
@[simp] theorem rns_C_api_Output {f : Nat → Nat} (l : List S_api_Output) : V.rns f (l.flatMap C_api_Output) = l.flatMap C_api_Output := rns_flat (fun _ => rfl) l
@[simp] theorem rns_K_api_Output {f : Nat → Nat} (x : S_api_Output) : V.rns f (C_api_Output x) = C_api_Output x := rfl
abbrev M_76 (e : S_api_OutPoint × Bool) : List V := (ar32 (eI .u8) e.1.Tx [(eI .u32 e.1.Index), (eB e.2)])
def Q_76 (a b : S_api_OutPoint) : Bool := (aeq32 a.Tx b.Tx ((a.Index == b.Index) && true))
@[simp] theorem rns_M_76 {f : Nat → Nat} (l : List (S_api_OutPoint × Bool)) : V.rns f (l.flatMap M_76) = l.flatMap M_76 := rns_flat (fun _ => rfl) l
structure S_api_Coin where
  Out : S_api_OutPoint
  Output : S_api_Output
  Height : Int
  Coinbase : Bool
abbrev C_api_Coin (x : S_api_Coin) : List V := (ar32 (eI .u8) x.Out.Tx [(eI .u32 x.Out.Index), (eI .i64 x.Output.Value), (.row none 1 (x.Output.Script.map (eI .u8))), (eI .i64 x.Height), (eB x.Coinbase)])
abbrev E_api_Coin (x : S_api_Coin) : V := .agg (C_api_Coin x)
@[simp] theorem rns_C_api_Coin {f : Nat → Nat} (l : List S_api_Coin) : V.rns f (l.flatMap C_api_Coin) = l.flatMap C_api_Coin := rns_flat (fun _ => rfl) l
@[simp] theorem rns_K_api_Coin {f : Nat → Nat} (x : S_api_Coin) : V.rns f (C_api_Coin x) = C_api_Coin x := rfl
def codec_lowest_J1 (N : Nat) (l0 : List Int) : Option (List Int) :=
  some l0
def codec_lowest_L2 (N : Nat) (vn : Int) (width : Int) : Nat → Int → (List Int) → Option (List Int)
  | 0, _, _ => none
  | m + 1, x10, l0_1 =>
    if decide (x10 < width) then
      (shr .u64 vn (IntKind.i64.wrap (8 * x10))).bind fun x18 =>
      (idx l0_1 x10).bind fun x20 =>
      (codec_lowest_L2 N vn width m) (IntKind.i64.wrap (x10 + 1)) (l0_1.set (Int.toNat x10) (IntKind.u8.wrap x18))
    else
      some l0_1
def codec_lowest (N : Nat) (vn : Int) (width : Int) : Option (List Int) :=
  (mks 1 0 width).bind fun x8 =>
  (codec_lowest_L2 N vn width N 0 x8).bind fun p2 =>
  codec_lowest_J1 N p2
def codec_extend (N : Nat) (b : List Int) (vs : List Int) : Option (List Int) :=
  (mks 1 0 (IntKind.i64.wrap ((b.length : Int) + (vs.length : Int)))).bind fun x11 =>
  (app 1 (x11.take 0) b).bind fun x14 =>
  (app 1 x14 vs).bind fun x17 =>
  some x17
def codec_AppendU32 (N : Nat) (b : List Int) (vn : Int) : Option (List Int) :=
  (codec_lowest N (IntKind.u64.wrap vn) 4).bind fun x8 =>
  (codec_extend N b x8).bind fun x9 =>
  some x9
def codec_AppendU16 (N : Nat) (b : List Int) (vn : Int) : Option (List Int) :=
  (codec_lowest N (IntKind.u64.wrap vn) 2).bind fun x8 =>
  (codec_extend N b x8).bind fun x9 =>
  some x9
def codec_AppendU64 (N : Nat) (b : List Int) (vn : Int) : Option (List Int) :=
  (codec_lowest N vn 8).bind fun x7 =>
  (codec_extend N b x7).bind fun x8 =>
  some x8
def codec_AppendSize (N : Nat) (b : List Int) (vn : Int) : Option (List Int) :=
  if decide (vn < 253) then
    (codec_extend N b [IntKind.u8.wrap vn]).bind fun x12 =>
    some x12
  else
    if decide (vn < 65536) then
      (codec_extend N b [253]).bind fun x18 =>
      (codec_AppendU16 N x18 (IntKind.u16.wrap vn)).bind fun x21 =>
      some x21
    else
      if decide (vn < 4294967296) then
        (codec_extend N b [254]).bind fun x27 =>
        (codec_AppendU32 N x27 (IntKind.u32.wrap vn)).bind fun x30 =>
        some x30
      else
        (codec_extend N b [255]).bind fun x33 =>
        (codec_AppendU64 N x33 vn).bind fun x35 =>
        some x35
def codec_AppendHash (N : Nat) (b : List Int) (vh : List Int) : Option (List Int) :=
  (arr 32 vh).bind fun q =>
  (codec_extend N b vh).bind fun x7 =>
  some x7
def tx_Point (N : Nat) (o_Tx : List Int) (o_Index : Int) : Option (List Int) :=
  (arr 32 o_Tx).bind fun q =>
  (codec_AppendHash N [] o_Tx).bind fun x5 =>
  (codec_AppendU32 N x5 o_Index).bind fun x8 =>
  some x8
def codec_AppendBytes (N : Nat) (b : List Int) (vs : List Int) : Option (List Int) :=
  (codec_AppendSize N b (IntKind.u64.wrap (vs.length : Int))).bind fun x9 =>
  (codec_extend N x9 vs).bind fun x11 =>
  some x11
def tx_encode_J3 (N : Nat) (l0 : List Int) : Option (List Int) :=
  some l0
def tx_encode_J5 (N : Nat) (t_Inputs : List S_api_Input) (x79 : Int) (rec : Int → (List Int) → Option (List Int)) (l0_2 : List Int) : Option (List Int) :=
  rec (IntKind.i64.wrap (x79 + 1)) l0_2
def tx_encode_L6 (N : Nat) (t_Inputs : List S_api_Input) (x79 : Int) (x81 : S_api_Input) : Nat → Int → (List Int) → Option (List Int)
  | 0, _, _ => none
  | m + 1, x93, l0_3 =>
    if decide (x93 < (x81.Witness.length : Int)) then
      (idx x81.Witness x93).bind fun x95 =>
      (codec_AppendBytes N [] x95).bind fun x99 =>
      (app 1 l0_3 x99).bind fun x100 =>
      (tx_encode_L6 N t_Inputs x79 x81 m) (IntKind.i64.wrap (x93 + 1)) x100
    else
      some l0_3
def tx_encode_L4 (N : Nat) (t_Inputs : List S_api_Input) : Nat → Int → (List Int) → Option (List Int)
  | 0, _, _ => none
  | m + 1, x79, l0_1 =>
    if decide (x79 < (t_Inputs.length : Int)) then
      (idx t_Inputs x79).bind fun x81 =>
      (codec_AppendSize N [] (IntKind.u64.wrap (x81.Witness.length : Int))).bind fun x88 =>
      (app 1 l0_1 x88).bind fun x89 =>
      (tx_encode_L6 N t_Inputs x79 x81 N 0 x89).bind fun p6 =>
      tx_encode_J5 N t_Inputs x79 (tx_encode_L4 N t_Inputs m) p6
    else
      some l0_1
def tx_encode_J2 (N : Nat) (t_Version : Int) (t_Inputs : List S_api_Input) (t_Outputs : List S_api_Output) (t_Lock : Int) (witness : Bool) (l1_1 : List Int) : Option (List Int) :=
  (codec_AppendU32 N [] t_Lock).bind fun x71 =>
  (app 1 l1_1 x71).bind fun x72 =>
  if !witness then
    some x72
  else
    (tx_encode_L4 N t_Inputs N 0 x72).bind fun p4 =>
    tx_encode_J3 N p4
def tx_encode_L7 (N : Nat) (t_Version : Int) (t_Inputs : List S_api_Input) (t_Outputs : List S_api_Output) (t_Lock : Int) (witness : Bool) : Nat → Int → (List Int) → Option (List Int)
  | 0, _, _ => none
  | m + 1, x52, l1_2 =>
    if decide (x52 < (t_Outputs.length : Int)) then
      (idx t_Outputs x52).bind fun x54 =>
      (codec_AppendU64 N [] (IntKind.u64.wrap x54.Value)).bind fun x60 =>
      (app 1 l1_2 x60).bind fun x61 =>
      (codec_AppendBytes N [] x54.Script).bind fun x65 =>
      (app 1 x61 x65).bind fun x66 =>
      (tx_encode_L7 N t_Version t_Inputs t_Outputs t_Lock witness m) (IntKind.i64.wrap (x52 + 1)) x66
    else
      some l1_2
def tx_encode_J1 (N : Nat) (t_Version : Int) (t_Inputs : List S_api_Input) (t_Outputs : List S_api_Output) (t_Lock : Int) (witness : Bool) (l1 : List Int) : Option (List Int) :=
  (codec_AppendSize N [] (IntKind.u64.wrap (t_Outputs.length : Int))).bind fun x47 =>
  (app 1 l1 x47).bind fun x48 =>
  (tx_encode_L7 N t_Version t_Inputs t_Outputs t_Lock witness N 0 x48).bind fun p7 =>
  tx_encode_J2 N t_Version t_Inputs t_Outputs t_Lock witness p7
def tx_encode_L8 (N : Nat) (t_Version : Int) (t_Inputs : List S_api_Input) (t_Outputs : List S_api_Output) (t_Lock : Int) (witness : Bool) : Nat → Int → (List Int) → Option (List Int)
  | 0, _, _ => none
  | m + 1, x27, l1_3 =>
    if decide (x27 < (t_Inputs.length : Int)) then
      (idx t_Inputs x27).bind fun x29 =>
      (tx_Point N x29.Prev.Tx x29.Prev.Index).bind fun x34 =>
      (app 1 l1_3 x34).bind fun x35 =>
      (codec_AppendU32 N [] x29.Sequence).bind fun x39 =>
      (app 1 x35 x39).bind fun x40 =>
      (tx_encode_L8 N t_Version t_Inputs t_Outputs t_Lock witness m) (IntKind.i64.wrap (x27 + 1)) x40
    else
      some l1_3
def tx_encode (N : Nat) (t_Version : Int) (t_Inputs : List S_api_Input) (t_Outputs : List S_api_Output) (t_Lock : Int) (witness : Bool) : Option (List Int) :=
  (codec_AppendU32 N [] t_Version).bind fun x16 =>
  (codec_AppendSize N [] (IntKind.u64.wrap (t_Inputs.length : Int))).bind fun x22 =>
  (app 1 x16 x22).bind fun x23 =>
  (tx_encode_L8 N t_Version t_Inputs t_Outputs t_Lock witness N 0 x23).bind fun p8 =>
  tx_encode_J1 N t_Version t_Inputs t_Outputs t_Lock witness p8
def tx_fits_J3 (N : Nat) (t_Version : Int) (t_Inputs : List S_api_Input) (t_Outputs : List S_api_Output) (t_Lock : Int) : Option Bool :=
  (tx_encode N t_Version t_Inputs t_Outputs t_Lock true).bind fun x60 =>
  some (decide ((x60.length : Int) ≤ 20000))
def tx_fits_J5 (N : Nat) (t_Version : Int) (t_Inputs : List S_api_Input) (t_Outputs : List S_api_Output) (t_Lock : Int) (x39 : Int) (rec : Int → Option (LR (Unit) (Bool))) : Option (LR (Unit) (Bool)) :=
  rec (IntKind.i64.wrap (x39 + 1))
def tx_fits_L6 (N : Nat) (t_Version : Int) (t_Inputs : List S_api_Input) (t_Outputs : List S_api_Output) (t_Lock : Int) (x39 : Int) (x41 : S_api_Input) : Nat → Int → Option (LR (Unit) (Bool))
  | 0, _ => none
  | m + 1, x50 =>
    if decide (x50 < (x41.Witness.length : Int)) then
      (idx x41.Witness x50).bind fun x52 =>
      if decide (520 < (x52.length : Int)) then
        some (.ret false)
      else
        (tx_fits_L6 N t_Version t_Inputs t_Outputs t_Lock x39 x41 m) (IntKind.i64.wrap (x50 + 1))
    else
      some (.brk ())
def tx_fits_L4 (N : Nat) (t_Version : Int) (t_Inputs : List S_api_Input) (t_Outputs : List S_api_Output) (t_Lock : Int) : Nat → Int → Option (LR (Unit) (Bool))
  | 0, _ => none
  | m + 1, x39 =>
    if decide (x39 < (t_Inputs.length : Int)) then
      (idx t_Inputs x39).bind fun x41 =>
      if decide (32 < (x41.Witness.length : Int)) then
        some (.ret false)
      else
        (tx_fits_L6 N t_Version t_Inputs t_Outputs t_Lock x39 x41 N 0).bind fun q => match q with
          | .ret v => some (.ret v)
          | .brk p6 =>
            tx_fits_J5 N t_Version t_Inputs t_Outputs t_Lock x39 (tx_fits_L4 N t_Version t_Inputs t_Outputs t_Lock m)
    else
      some (.brk ())
def tx_fits_J2 (N : Nat) (t_Version : Int) (t_Inputs : List S_api_Input) (t_Outputs : List S_api_Output) (t_Lock : Int) : Option Bool :=
  (tx_fits_L4 N t_Version t_Inputs t_Outputs t_Lock N 0).bind fun q => match q with
    | .ret v => some v
    | .brk p4 =>
      tx_fits_J3 N t_Version t_Inputs t_Outputs t_Lock
def tx_fits_J8 (N : Nat) (t_Version : Int) (t_Inputs : List S_api_Input) (t_Outputs : List S_api_Output) (t_Lock : Int) (x22 : Int) (rec : Int → Option (LR (Unit) (Bool))) (x34 : Bool) : Option (LR (Unit) (Bool)) :=
  if x34 then
    some (.ret false)
  else
    rec (IntKind.i64.wrap (x22 + 1))
def tx_fits_L7 (N : Nat) (t_Version : Int) (t_Inputs : List S_api_Input) (t_Outputs : List S_api_Output) (t_Lock : Int) : Nat → Int → Option (LR (Unit) (Bool))
  | 0, _ => none
  | m + 1, x22 =>
    if decide (x22 < (t_Outputs.length : Int)) then
      (idx t_Outputs x22).bind fun x24 =>
      if decide (x24.Value < 0) then
        tx_fits_J8 N t_Version t_Inputs t_Outputs t_Lock x22 (tx_fits_L7 N t_Version t_Inputs t_Outputs t_Lock m) true
      else
        tx_fits_J8 N t_Version t_Inputs t_Outputs t_Lock x22 (tx_fits_L7 N t_Version t_Inputs t_Outputs t_Lock m) (decide (520 < (x24.Script.length : Int)))
    else
      some (.brk ())
def tx_fits_J1 (N : Nat) (t_Version : Int) (t_Inputs : List S_api_Input) (t_Outputs : List S_api_Output) (t_Lock : Int) (x18 : Bool) : Option Bool :=
  if x18 then
    some false
  else
    (tx_fits_L7 N t_Version t_Inputs t_Outputs t_Lock N 0).bind fun q => match q with
      | .ret v => some v
      | .brk p7 =>
        tx_fits_J2 N t_Version t_Inputs t_Outputs t_Lock
def tx_fits (N : Nat) (t_Version : Int) (t_Inputs : List S_api_Input) (t_Outputs : List S_api_Output) (t_Lock : Int) : Option Bool :=
  if decide (64 < (t_Inputs.length : Int)) then
    tx_fits_J1 N t_Version t_Inputs t_Outputs t_Lock true
  else
    tx_fits_J1 N t_Version t_Inputs t_Outputs t_Lock (decide (64 < (t_Outputs.length : Int)))
def tx_money_J1 (N : Nat) : Option Bool :=
  some true
def tx_money_L2 (N : Nat) (l : List S_api_Output) : Nat → Int → Int → Option (LR (Unit) (Bool))
  | 0, _, _ => none
  | m + 1, sum, x8 =>
    if decide (x8 < (l.length : Int)) then
      (idx l x8).bind fun x10 =>
      if decide ((IntKind.i64.wrap (2100000000000000 - sum)) < x10.Value) then
        some (.ret false)
      else
        (tx_money_L2 N l m) (IntKind.i64.wrap (sum + x10.Value)) (IntKind.i64.wrap (x8 + 1))
    else
      some (.brk ())
def tx_money (N : Nat) (l : List S_api_Output) : Option Bool :=
  (tx_money_L2 N l N 0 0).bind fun q => match q with
    | .ret v => some v
    | .brk p2 =>
      tx_money_J1 N
def tx_null (N : Nat) (o_Tx : List Int) (o_Index : Int) : Option Bool :=
  some (aeq32 o_Tx (List.replicate 32 0) ((o_Index == 4294967295) && true))
def tx_Coinbase_J1 (N : Nat) (x2 : Bool) : Option Bool :=
  some x2
def tx_Coinbase (N : Nat) (t_Version : Int) (t_Inputs : List S_api_Input) (t_Outputs : List S_api_Output) (t_Lock : Int) : Option Bool :=
  if (t_Inputs.length : Int) == 1 then
    (idx t_Inputs 0).bind fun x10 =>
    (tx_null N x10.Prev.Tx x10.Prev.Index).bind fun x13 =>
    tx_Coinbase_J1 N x13
  else
    tx_Coinbase_J1 N false
def tx_Check_J3 (N : Nat) (x46 : Bool) : Option Int :=
  if x46 then
    some 92
  else
    some 0
def tx_Check_J2 (N : Nat) (t_Version : Int) (t_Inputs : List S_api_Input) (t_Outputs : List S_api_Output) (t_Lock : Int) (l1 : List (S_api_OutPoint × Bool)) : Option Int :=
  if mget Q_76 l1 (S_api_OutPoint.mk (List.replicate 32 0) 4294967295) false then
    (tx_Coinbase N t_Version t_Inputs t_Outputs t_Lock).bind fun x44 =>
    tx_Check_J3 N (!x44)
  else
    tx_Check_J3 N false
def tx_Check_L4 (N : Nat) (t_Version : Int) (t_Inputs : List S_api_Input) (t_Outputs : List S_api_Output) (t_Lock : Int) : Nat → Int → (List (S_api_OutPoint × Bool)) → Option (LR ((List (S_api_OutPoint × Bool))) (Int))
  | 0, _, _ => none
  | m + 1, x27, l1_1 =>
    if decide (x27 < (t_Inputs.length : Int)) then
      (idx t_Inputs x27).bind fun x29 =>
      if mget Q_76 l1_1 x29.Prev false then
        some (.ret 91)
      else
        (tx_Check_L4 N t_Version t_Inputs t_Outputs t_Lock m) (IntKind.i64.wrap (x27 + 1)) (mput Q_76 l1_1 x29.Prev true)
    else
      some (.brk l1_1)
def tx_Check_J1 (N : Nat) (t_Version : Int) (t_Inputs : List S_api_Input) (t_Outputs : List S_api_Output) (t_Lock : Int) (x18 : Bool) : Option Int :=
  if x18 then
    some 93
  else
    (tx_money N t_Outputs).bind fun x21 =>
    if !x21 then
      some 90
    else
      (tx_Check_L4 N t_Version t_Inputs t_Outputs t_Lock N 0 []).bind fun q => match q with
        | .ret v => some v
        | .brk p4 =>
          tx_Check_J2 N t_Version t_Inputs t_Outputs t_Lock p4
def tx_Check (N : Nat) (t_Version : Int) (t_Inputs : List S_api_Input) (t_Outputs : List S_api_Output) (t_Lock : Int) : Option Int :=
  (tx_fits N t_Version t_Inputs t_Outputs t_Lock).bind fun x7 =>
  if !x7 then
    some 4
  else
    if (t_Inputs.length : Int) == 0 then
      tx_Check_J1 N t_Version t_Inputs t_Outputs t_Lock true
    else
      tx_Check_J1 N t_Version t_Inputs t_Outputs t_Lock ((t_Outputs.length : Int) == 0)
def spend_sum_J1 (N : Nat) (total : Int) : Option (Int × Bool) :=
  some (total, true)
def spend_sum_J3 (N : Nat) (l : List S_api_Coin) (total_1 : Int) (x9 : Int) (x11 : S_api_Coin) (rec : Int → Int → Option (LR (Int) (Int × Bool))) (x24 : Bool) : Option (LR (Int) (Int × Bool)) :=
  if x24 then
    some (.ret (0, false))
  else
    rec (IntKind.i64.wrap (total_1 + x11.Output.Value)) (IntKind.i64.wrap (x9 + 1))
def spend_sum_L2 (N : Nat) (l : List S_api_Coin) : Nat → Int → Int → Option (LR (Int) (Int × Bool))
  | 0, _, _ => none
  | m + 1, total_1, x9 =>
    if decide (x9 < (l.length : Int)) then
      (idx l x9).bind fun x11 =>
      if decide (x11.Output.Value < 0) then
        spend_sum_J3 N l total_1 x9 x11 (spend_sum_L2 N l m) true
      else
        spend_sum_J3 N l total_1 x9 x11 (spend_sum_L2 N l m) (decide ((IntKind.i64.wrap (2100000000000000 - total_1)) < x11.Output.Value))
    else
      some (.brk total_1)
def spend_sum (N : Nat) (l : List S_api_Coin) : Option (Int × Bool) :=
  (spend_sum_L2 N l N 0 0).bind fun q => match q with
    | .ret v => some v
    | .brk p2 =>
      spend_sum_J1 N p2
def spend_Fee_J2 (N : Nat) (fee : Int) : Option (Int × Int) :=
  if decide (fee < 0) then
    some (0, 100)
  else
    some (fee, 0)
def spend_Fee_L3 (N : Nat) (t_Outputs : List S_api_Output) : Nat → Int → Int → Option Int
  | 0, _, _ => none
  | m + 1, fee_1, x51 =>
    if decide (x51 < (t_Outputs.length : Int)) then
      (idx t_Outputs x51).bind fun x53 =>
      (spend_Fee_L3 N t_Outputs m) (IntKind.i64.wrap (fee_1 - x53.Value)) (IntKind.i64.wrap (x51 + 1))
    else
      some fee_1
def spend_Fee_J1 (N : Nat) (t_Version : Int) (t_Inputs : List S_api_Input) (t_Outputs : List S_api_Output) (t_Lock : Int) (l : List S_api_Coin) : Option (Int × Int) :=
  (spend_sum N l).bind fun x43 =>
  if !x43.2 then
    some (0, 90)
  else
    (spend_Fee_L3 N t_Outputs N x43.1 0).bind fun p3 =>
    spend_Fee_J2 N p3
def spend_Fee_L4 (N : Nat) (t_Version : Int) (t_Inputs : List S_api_Input) (t_Outputs : List S_api_Output) (t_Lock : Int) (l : List S_api_Coin) : Nat → Int → Option (LR (Unit) (Int × Int))
  | 0, _ => none
  | m + 1, x26 =>
    if decide (x26 < (l.length : Int)) then
      (idx l x26).bind fun x29 =>
      (idx t_Inputs x26).bind fun x36 =>
      if !(aeq32 x29.Out.Tx x36.Prev.Tx ((x29.Out.Index == x36.Prev.Index) && true)) then
        some (.ret (0, 101))
      else
        (spend_Fee_L4 N t_Version t_Inputs t_Outputs t_Lock l m) (IntKind.i64.wrap (x26 + 1))
    else
      some (.brk ())
def spend_Fee (N : Nat) (t_Version : Int) (t_Inputs : List S_api_Input) (t_Outputs : List S_api_Output) (t_Lock : Int) (l : List S_api_Coin) : Option (Int × Int) :=
  (tx_Check N t_Version t_Inputs t_Outputs t_Lock).bind fun x14 =>
  if x14 != 0 then
    some (0, x14)
  else
    if (l.length : Int) != (t_Inputs.length : Int) then
      some (0, 8)
    else
      (spend_Fee_L4 N t_Version t_Inputs t_Outputs t_Lock l N 0).bind fun q => match q with
        | .ret v => some v
        | .brk p4 =>
          spend_Fee_J1 N t_Version t_Inputs t_Outputs t_Lock l
def law10_sane_J1 (N : Nat) (x0 : Bool) : Option Bool :=
  some x0
def law10_sane (N : Nat) : Option Bool :=
  (spend_Fee N 0 [(S_api_Input.mk (S_api_OutPoint.mk (List.replicate 32 0) 1) 0 []), (S_api_Input.mk (S_api_OutPoint.mk (List.replicate 32 0) 2) 0 [])] [(S_api_Output.mk 10 [])] 0 [(S_api_Coin.mk (S_api_OutPoint.mk (List.replicate 32 0) 1) (S_api_Output.mk 5 []) 0 false), (S_api_Coin.mk (S_api_OutPoint.mk (List.replicate 32 0) 2) (S_api_Output.mk 7 []) 0 false)]).bind fun x29 =>
  (idx [(S_api_Output.mk 10 [])] 0).bind fun x34 =>
  (spend_Fee N 0 [(S_api_Input.mk (S_api_OutPoint.mk (List.replicate 32 0) 1) 0 []), (S_api_Input.mk (S_api_OutPoint.mk (List.replicate 32 0) 2) 0 [])] ([(S_api_Output.mk 10 [])].set (Int.toNat 0) (S_api_Output.mk 13 x34.Script)) 0 [(S_api_Coin.mk (S_api_OutPoint.mk (List.replicate 32 0) 1) (S_api_Output.mk 5 []) 0 false), (S_api_Coin.mk (S_api_OutPoint.mk (List.replicate 32 0) 2) (S_api_Output.mk 7 []) 0 false)]).bind fun x39 =>
  if x29.2 == 0 then
    if x29.1 == 2 then
      law10_sane_J1 N (x39.2 == 100)
    else
      law10_sane_J1 N false
  else
    law10_sane_J1 N false
def keep_Items_J1 (N : Nat) : Option Bool :=
  some true
def keep_Items_L2 (N : Nat) (l : List (List Int)) (vm : Int) : Nat → Int → Option (LR (Unit) (Bool))
  | 0, _ => none
  | m + 1, x15 =>
    if decide (x15 < (l.length : Int)) then
      (idx l x15).bind fun x17 =>
      if decide (vm < (x17.length : Int)) then
        some (.ret false)
      else
        (keep_Items_L2 N l vm m) (IntKind.i64.wrap (x15 + 1))
    else
      some (.brk ())
def keep_Items (N : Nat) (l : List (List Int)) (vn : Int) (vm : Int) : Option Bool :=
  if decide (vn < (l.length : Int)) then
    some false
  else
    (keep_Items_L2 N l vm N 0).bind fun q => match q with
      | .ret v => some v
      | .brk p2 =>
        keep_Items_J1 N
def keep_Tx_J3 (N : Nat) : Option Bool :=
  some true
def keep_Tx_L4 (N : Nat) (t_Outputs : List S_api_Output) : Nat → Int → Option (LR (Unit) (Bool))
  | 0, _ => none
  | m + 1, x32 =>
    if decide (x32 < (t_Outputs.length : Int)) then
      (idx t_Outputs x32).bind fun x34 =>
      if decide (600 < (x34.Script.length : Int)) then
        some (.ret false)
      else
        (keep_Tx_L4 N t_Outputs m) (IntKind.i64.wrap (x32 + 1))
    else
      some (.brk ())
def keep_Tx_J2 (N : Nat) (t_Version : Int) (t_Inputs : List S_api_Input) (t_Outputs : List S_api_Output) (t_Lock : Int) : Option Bool :=
  (keep_Tx_L4 N t_Outputs N 0).bind fun q => match q with
    | .ret v => some v
    | .brk p4 =>
      keep_Tx_J3 N
def keep_Tx_L5 (N : Nat) (t_Version : Int) (t_Inputs : List S_api_Input) (t_Outputs : List S_api_Output) (t_Lock : Int) : Nat → Int → Option (LR (Unit) (Bool))
  | 0, _ => none
  | m + 1, x20 =>
    if decide (x20 < (t_Inputs.length : Int)) then
      (idx t_Inputs x20).bind fun x22 =>
      (keep_Items N x22.Witness 40 600).bind fun x26 =>
      if !x26 then
        some (.ret false)
      else
        (keep_Tx_L5 N t_Version t_Inputs t_Outputs t_Lock m) (IntKind.i64.wrap (x20 + 1))
    else
      some (.brk ())
def keep_Tx_J1 (N : Nat) (t_Version : Int) (t_Inputs : List S_api_Input) (t_Outputs : List S_api_Output) (t_Lock : Int) (x16 : Bool) : Option Bool :=
  if x16 then
    some false
  else
    (keep_Tx_L5 N t_Version t_Inputs t_Outputs t_Lock N 0).bind fun q => match q with
      | .ret v => some v
      | .brk p5 =>
        keep_Tx_J2 N t_Version t_Inputs t_Outputs t_Lock
def keep_Tx (N : Nat) (t_Version : Int) (t_Inputs : List S_api_Input) (t_Outputs : List S_api_Output) (t_Lock : Int) : Option Bool :=
  if decide (70 < (t_Inputs.length : Int)) then
    keep_Tx_J1 N t_Version t_Inputs t_Outputs t_Lock true
  else
    keep_Tx_J1 N t_Version t_Inputs t_Outputs t_Lock (decide (70 < (t_Outputs.length : Int)))
def tx_Encode (N : Nat) (t_Version : Int) (t_Inputs : List S_api_Input) (t_Outputs : List S_api_Output) (t_Lock : Int) (witness : Bool) : Option ((List Int) × Int) :=
  (tx_fits N t_Version t_Inputs t_Outputs t_Lock).bind fun x7 =>
  if !x7 then
    some ([], 4)
  else
    (tx_encode N t_Version t_Inputs t_Outputs t_Lock witness).bind fun x11 =>
    some (x11, 0)
def spend_fits (N : Nat) (t_Version : Int) (t_Inputs : List S_api_Input) (t_Outputs : List S_api_Output) (t_Lock : Int) : Option Bool :=
  (tx_Encode N t_Version t_Inputs t_Outputs t_Lock true).bind fun x7 =>
  some (x7.2 == 0)
def spend_number (N : Nat) (vn : Int) : Option (List Int) :=
  (codec_AppendU32 N [] vn).bind fun x4 =>
  some x4
def spend_row_J1 (N : Nat) (l0 : List Int) : Option (List Int) :=
  some l0
def spend_row_L2 (N : Nat) (parts : List (List Int)) : Nat → Int → (List Int) → Option (List Int)
  | 0, _, _ => none
  | m + 1, x8, l0_1 =>
    if decide (x8 < (parts.length : Int)) then
      (idx parts x8).bind fun x10 =>
      (app 1 l0_1 x10).bind fun x14 =>
      (spend_row_L2 N parts m) (IntKind.i64.wrap (x8 + 1)) x14
    else
      some l0_1
def spend_row (N : Nat) (parts : List (List Int)) : Option (List Int) :=
  (spend_row_L2 N parts N 0 []).bind fun p2 =>
  spend_row_J1 N p2
def spend_output (N : Nat) (o_Value : Int) (o_Script : List Int) : Option (List Int) :=
  (codec_AppendU64 N [] (IntKind.u64.wrap o_Value)).bind fun x6 =>
  (codec_AppendBytes N [] o_Script).bind fun x9 =>
  (spend_row N [x6, x9]).bind fun x11 =>
  some x11
def sha_Pad_J1 (N : Nat) (l0 : List Int) : Option (List Int) :=
  some l0
def sha_Pad_L2 (N : Nat) (vn : Int) : Nat → Int → (List Int) → Option (List Int)
  | 0, _, _ => none
  | m + 1, x18, l0_1 =>
    if decide (x18 < 8) then
      (shr .u64 (IntKind.u64.wrap (8 * vn)) (IntKind.i64.wrap (56 - (IntKind.i64.wrap (8 * x18))))).bind fun x27 =>
      (app 1 l0_1 [IntKind.u8.wrap x27]).bind fun x30 =>
      (sha_Pad_L2 N vn m) (IntKind.i64.wrap (x18 + 1)) x30
    else
      some l0_1
def sha_Pad (N : Nat) (vn : Int) : Option (List Int) :=
  (mkl 1 0 (IntKind.u64.wrap (1 + (Int.tmod (IntKind.u64.wrap (64 - (Int.tmod (IntKind.u64.wrap (vn + 9)) 64))) 64))) (IntKind.u64.wrap (9 + (Int.tmod (IntKind.u64.wrap (64 - (Int.tmod (IntKind.u64.wrap (vn + 9)) 64))) 64)))).bind fun x15 =>
  (idx x15 0).bind fun x17 =>
  (sha_Pad_L2 N vn N 0 (x15.set (Int.toNat 0) 128)).bind fun p2 =>
  sha_Pad_J1 N p2
def sha_row_J1 (N : Nat) (l0 : List Int) : Option (List Int) :=
  some l0
def sha_row_L2 (N : Nat) (parts : List (List Int)) : Nat → Int → (List Int) → Option (List Int)
  | 0, _, _ => none
  | m + 1, x8, l0_1 =>
    if decide (x8 < (parts.length : Int)) then
      (idx parts x8).bind fun x10 =>
      (app 1 l0_1 x10).bind fun x14 =>
      (sha_row_L2 N parts m) (IntKind.i64.wrap (x8 + 1)) x14
    else
      some l0_1
def sha_row (N : Nat) (parts : List (List Int)) : Option (List Int) :=
  (sha_row_L2 N parts N 0 []).bind fun p2 =>
  sha_row_J1 N p2
def math_bits_RotateLeft32 (N : Nat) (x : Int) (k : Int) : Option Int :=
  (shl .u32 x (bits .and .u64 (IntKind.u64.wrap k) 31)).bind fun x11 =>
  (shr .u32 x (IntKind.u64.wrap (32 - (bits .and .u64 (IntKind.u64.wrap k) 31)))).bind fun x15 =>
  some (bits .or .u32 x11 x15)
def sha_rotr (N : Nat) (x : Int) (vn : Int) : Option Int :=
  (math_bits_RotateLeft32 N x (IntKind.i64.wrap (0 - vn))).bind fun x8 =>
  some x8
def sha_schedule_J2 (N : Nat) (l1_1 : List Int) : Option (List Int) :=
  (arr 64 l1_1).bind fun q =>
  some l1_1
def sha_schedule_L3 (N : Nat) : Nat → Int → (List Int) → Option (List Int)
  | 0, _, _ => none
  | m + 1, vi, l1_2 =>
    if decide (vi < 64) then
      (aix 64 l1_2 (IntKind.i64.wrap (vi - 15))).bind fun x37 =>
      (sha_rotr N x37 7).bind fun x39 =>
      (sha_rotr N x37 18).bind fun x44 =>
      (shr .u32 x37 3).bind fun x50 =>
      (aix 64 l1_2 (IntKind.i64.wrap (vi - 2))).bind fun x54 =>
      (sha_rotr N x54 17).bind fun x56 =>
      (sha_rotr N x54 19).bind fun x61 =>
      (shr .u32 x54 10).bind fun x67 =>
      (aix 64 l1_2 (IntKind.i64.wrap (vi - 16))).bind fun x72 =>
      (aix 64 l1_2 (IntKind.i64.wrap (vi - 7))).bind fun x78 =>
      (aix 64 l1_2 vi).bind fun x83 =>
      (sha_schedule_L3 N m) (IntKind.i64.wrap (vi + 1)) (l1_2.set (Int.toNat vi) (IntKind.u32.wrap ((IntKind.u32.wrap ((IntKind.u32.wrap (x72 + (bits .xor .u32 (bits .xor .u32 x39 x44) x50))) + x78)) + (bits .xor .u32 (bits .xor .u32 x56 x61) x67))))
    else
      some l1_2
def sha_schedule_J1 (N : Nat) (l1 : List Int) : Option (List Int) :=
  (sha_schedule_L3 N N 16 l1).bind fun p3 =>
  sha_schedule_J2 N p3
def sha_schedule_J5 (N : Nat) (block : List Int) (x9 : Int) (rec : Int → (List Int) → Option (List Int)) (l2_1 : List Int) : Option (List Int) :=
  rec (IntKind.i64.wrap (x9 + 1)) l2_1
def sha_schedule_L6 (N : Nat) (block : List Int) (x9 : Int) : Nat → Int → (List Int) → Option (List Int)
  | 0, _, _ => none
  | m + 1, x12, l2_2 =>
    if decide (x12 < 4) then
      (aix 64 l2_2 x9).bind fun x17 =>
      (shl .u32 x17 8).bind fun x19 =>
      (aix 64 block (IntKind.i64.wrap ((IntKind.i64.wrap (4 * x9)) + x12))).bind fun x24 =>
      (sha_schedule_L6 N block x9 m) (IntKind.i64.wrap (x12 + 1)) (l2_2.set (Int.toNat x9) (bits .or .u32 x19 (IntKind.u32.wrap x24)))
    else
      some l2_2
def sha_schedule_L4 (N : Nat) (block : List Int) : Nat → Int → (List Int) → Option (List Int)
  | 0, _, _ => none
  | m + 1, x9, l2 =>
    if decide (x9 < 16) then
      (sha_schedule_L6 N block x9 N 0 l2).bind fun p6 =>
      sha_schedule_J5 N block x9 (sha_schedule_L4 N block m) p6
    else
      some l2
def sha_schedule (N : Nat) (block : List Int) : Option (List Int) :=
  (sha_schedule_L4 N block N 0 (List.replicate 64 0)).bind fun p4 =>
  sha_schedule_J1 N p4
def sha_Compress_J1 (N : Nat) (state : List Int) (va : Int) (b : Int) (c : Int) (d : Int) (ve : Int) (f : Int) (g : Int) (vh : Int) : Option (List Int) :=
  (aix 8 state 0).bind fun x98 =>
  (aix 8 state 1).bind fun x102 =>
  (aix 8 state 2).bind fun x106 =>
  (aix 8 state 3).bind fun x110 =>
  (aix 8 state 4).bind fun x114 =>
  (aix 8 state 5).bind fun x118 =>
  (aix 8 state 6).bind fun x122 =>
  (aix 8 state 7).bind fun x126 =>
  some [IntKind.u32.wrap (x98 + va), IntKind.u32.wrap (x102 + b), IntKind.u32.wrap (x106 + c), IntKind.u32.wrap (x110 + d), IntKind.u32.wrap (x114 + ve), IntKind.u32.wrap (x118 + f), IntKind.u32.wrap (x122 + g), IntKind.u32.wrap (x126 + vh)]
def sha_Compress_L2 (N : Nat) (state : List Int) (x18 : (List Int)) : Nat → Int → Int → Int → Int → Int → Int → Int → Int → Int → Option (Int × Int × Int × Int × Int × Int × Int × Int)
  | 0, _, _, _, _, _, _, _, _, _ => none
  | m + 1, va_1, b_1, c_1, d_1, ve_1, f_1, g_1, vh_1, x35 =>
    if decide (x35 < 64) then
      (sha_rotr N ve_1 6).bind fun x40 =>
      (sha_rotr N ve_1 11).bind fun x42 =>
      (sha_rotr N ve_1 25).bind fun x45 =>
      (aix 64 shaK x35).bind fun x58 =>
      (aix 64 x18 x35).bind fun x62 =>
      (sha_rotr N va_1 2).bind fun x66 =>
      (sha_rotr N va_1 13).bind fun x68 =>
      (sha_rotr N va_1 22).bind fun x71 =>
      (sha_Compress_L2 N state x18 m) (IntKind.u32.wrap ((IntKind.u32.wrap ((IntKind.u32.wrap ((IntKind.u32.wrap ((IntKind.u32.wrap (vh_1 + (bits .xor .u32 (bits .xor .u32 x40 x42) x45))) + (bits .xor .u32 (bits .and .u32 ve_1 f_1) (bits .and .u32 (bits .xor .u32 (IntKind.max .u32) ve_1) g_1)))) + x58)) + x62)) + (IntKind.u32.wrap ((bits .xor .u32 (bits .xor .u32 x66 x68) x71) + (bits .xor .u32 (bits .xor .u32 (bits .and .u32 va_1 b_1) (bits .and .u32 va_1 c_1)) (bits .and .u32 b_1 c_1)))))) va_1 b_1 c_1 (IntKind.u32.wrap (d_1 + (IntKind.u32.wrap ((IntKind.u32.wrap ((IntKind.u32.wrap ((IntKind.u32.wrap (vh_1 + (bits .xor .u32 (bits .xor .u32 x40 x42) x45))) + (bits .xor .u32 (bits .and .u32 ve_1 f_1) (bits .and .u32 (bits .xor .u32 (IntKind.max .u32) ve_1) g_1)))) + x58)) + x62)))) ve_1 f_1 g_1 (IntKind.i64.wrap (x35 + 1))
    else
      some (va_1, b_1, c_1, d_1, ve_1, f_1, g_1, vh_1)
def sha_Compress (N : Nat) (state : List Int) (block : List Int) : Option (List Int) :=
  (arr 64 block).bind fun q =>
  (sha_schedule N block).bind fun x18 =>
  (arr 64 x18).bind fun q_1 =>
  (aix 8 state 0).bind fun x19 =>
  (aix 8 state 1).bind fun x21 =>
  (aix 8 state 2).bind fun x23 =>
  (aix 8 state 3).bind fun x25 =>
  (aix 8 state 4).bind fun x27 =>
  (aix 8 state 5).bind fun x29 =>
  (aix 8 state 6).bind fun x31 =>
  (aix 8 state 7).bind fun x33 =>
  (sha_Compress_L2 N state x18 N x19 x21 x23 x25 x27 x29 x31 x33 0).bind fun p2 =>
  sha_Compress_J1 N state p2.1 p2.2.1 p2.2.2.1 p2.2.2.2.1 p2.2.2.2.2.1 p2.2.2.2.2.2.1 p2.2.2.2.2.2.2.1 p2.2.2.2.2.2.2.2
def sha_Sum_J2 (N : Nat) (l1_1 : List Int) : Option (List Int) :=
  (arr 32 l1_1).bind fun q =>
  some l1_1
def sha_Sum_L3 (N : Nat) (l1 : List Int) : Nat → Int → (List Int) → Option (List Int)
  | 0, _, _ => none
  | m + 1, x31, l2 =>
    if decide (x31 < 32) then
      (aix 8 l1 (IntKind.i64.wrap (Int.tdiv x31 4))).bind fun x37 =>
      (shr .u32 x37 (IntKind.i64.wrap (24 - (IntKind.i64.wrap ((Int.tmod x31 4) * 8))))).bind fun x43 =>
      (aix 32 l2 x31).bind fun x45 =>
      (sha_Sum_L3 N l1 m) (IntKind.i64.wrap (x31 + 1)) (l2.set (Int.toNat x31) (IntKind.u8.wrap x43))
    else
      some l2
def sha_Sum_J1 (N : Nat) (l1 : List Int) : Option (List Int) :=
  (sha_Sum_L3 N l1 N 0 (List.replicate 32 0)).bind fun p3 =>
  sha_Sum_J2 N p3
def sha_Sum_L4 (N : Nat) (x14 : (List Int)) : Nat → Int → (List Int) → Option (List Int)
  | 0, _, _ => none
  | m + 1, x19, l1_2 =>
    if decide (x19 < (IntKind.i64.wrap (Int.tdiv (x14.length : Int) 64))) then
      (arr 8 l1_2).bind fun q_1 =>
      (sub x14 (IntKind.i64.wrap (64 * x19)) (x14.length : Int)).bind fun x26 =>
      (arp 64 x26).bind fun x27 =>
      (sha_Compress N l1_2 x27).bind fun x29 =>
      (arr 8 x29).bind fun q_2 =>
      (sha_Sum_L4 N x14 m) (IntKind.i64.wrap (x19 + 1)) x29
    else
      some l1_2
def sha_Sum (N : Nat) (b : List Int) : Option (List Int) :=
  (sha_Pad N (IntKind.u64.wrap (b.length : Int))).bind fun x12 =>
  (sha_row N [b, x12]).bind fun x14 =>
  (sha_Sum_L4 N x14 N 0 shaI).bind fun p4 =>
  sha_Sum_J1 N p4
def spend_digest (N : Nat) (b : List Int) : Option (List Int) :=
  (sha_Sum N b).bind fun x5 =>
  (arr 32 x5).bind fun q =>
  some x5
def sha_Tagged (N : Nat) (tag : ByteArray) (b : List Int) : Option (List Int) :=
  (stb tag).bind fun x7 =>
  (sha_Sum N x7).bind fun x8 =>
  (arr 32 x8).bind fun q =>
  (sha_row N [x8, x8, b]).bind fun x13 =>
  (sha_Sum N x13).bind fun x14 =>
  (arr 32 x14).bind fun q_1 =>
  some x14
def spend_Message_J4 (N : Nat) (t_Version : Int) (t_Inputs : List S_api_Input) (t_Outputs : List S_api_Output) (t_Lock : Int) (vi : Int) (o_Value : Int) (o_Script : List Int) (l3 : List Int) (l4 : List Int) (l5 : List Int) : Option ((List Int) × Int) :=
  (spend_number N t_Version).bind fun x72 =>
  (spend_digest N l3).bind fun x74 =>
  (spend_digest N l4).bind fun x76 =>
  (spend_digest N l5).bind fun x78 =>
  (spend_number N t_Lock).bind fun x81 =>
  (spend_number N (IntKind.u32.wrap vi)).bind fun x84 =>
  (spend_output N o_Value o_Script).bind fun x86 =>
  (spend_row N [x72, x74, x76, x78, x81, x84, x86]).bind fun x88 =>
  (sha_Tagged N (⟨#[108, 105, 103, 104, 116, 99, 108, 105, 101, 110, 116, 47, 115, 112, 101, 110, 100]⟩) x88).bind fun x89 =>
  (arr 32 x89).bind fun q =>
  some (x89, 0)
def spend_Message_L5 (N : Nat) (t_Version : Int) (t_Inputs : List S_api_Input) (t_Outputs : List S_api_Output) (t_Lock : Int) (vi : Int) (o_Value : Int) (o_Script : List Int) (l3 : List Int) (l4 : List Int) : Nat → Int → (List Int) → Option (List Int)
  | 0, _, _ => none
  | m + 1, x61, l5_1 =>
    if decide (x61 < (t_Outputs.length : Int)) then
      (idx t_Outputs x61).bind fun x63 =>
      (spend_output N x63.Value x63.Script).bind fun x67 =>
      (app 1 l5_1 x67).bind fun x68 =>
      (spend_Message_L5 N t_Version t_Inputs t_Outputs t_Lock vi o_Value o_Script l3 l4 m) (IntKind.i64.wrap (x61 + 1)) x68
    else
      some l5_1
def spend_Message_J3 (N : Nat) (t_Version : Int) (t_Inputs : List S_api_Input) (t_Outputs : List S_api_Output) (t_Lock : Int) (vi : Int) (o_Value : Int) (o_Script : List Int) (l3 : List Int) (l4 : List Int) : Option ((List Int) × Int) :=
  (spend_Message_L5 N t_Version t_Inputs t_Outputs t_Lock vi o_Value o_Script l3 l4 N 0 []).bind fun p5 =>
  spend_Message_J4 N t_Version t_Inputs t_Outputs t_Lock vi o_Value o_Script l3 l4 p5
def spend_Message_L6 (N : Nat) (t_Version : Int) (t_Inputs : List S_api_Input) (t_Outputs : List S_api_Output) (t_Lock : Int) (vi : Int) (o_Value : Int) (o_Script : List Int) : Nat → Int → (List Int) → (List Int) → Option ((List Int) × (List Int))
  | 0, _, _, _ => none
  | m + 1, x43, l3_1, l4_1 =>
    if decide (x43 < (t_Inputs.length : Int)) then
      (idx t_Inputs x43).bind fun x45 =>
      (tx_Point N x45.Prev.Tx x45.Prev.Index).bind fun x50 =>
      (app 1 l3_1 x50).bind fun x51 =>
      (spend_number N x45.Sequence).bind fun x55 =>
      (app 1 l4_1 x55).bind fun x56 =>
      (spend_Message_L6 N t_Version t_Inputs t_Outputs t_Lock vi o_Value o_Script m) (IntKind.i64.wrap (x43 + 1)) x51 x56
    else
      some (l3_1, l4_1)
def spend_Message_J2 (N : Nat) (t_Version : Int) (t_Inputs : List S_api_Input) (t_Outputs : List S_api_Output) (t_Lock : Int) (vi : Int) (o_Value : Int) (o_Script : List Int) (x38 : Bool) : Option ((List Int) × Int) :=
  if x38 then
    some ([0, 0, 0, 0, 0, 0, 0, 0, 0, 0, 0, 0, 0, 0, 0, 0, 0, 0, 0, 0, 0, 0, 0, 0, 0, 0, 0, 0, 0, 0, 0, 0], 5)
  else
    (spend_Message_L6 N t_Version t_Inputs t_Outputs t_Lock vi o_Value o_Script N 0 [] []).bind fun p6 =>
    spend_Message_J3 N t_Version t_Inputs t_Outputs t_Lock vi o_Value o_Script p6.1 p6.2
def spend_Message_J1 (N : Nat) (t_Version : Int) (t_Inputs : List S_api_Input) (t_Outputs : List S_api_Output) (t_Lock : Int) (vi : Int) (o_Value : Int) (o_Script : List Int) (x28 : Bool) : Option ((List Int) × Int) :=
  if x28 then
    some ([0, 0, 0, 0, 0, 0, 0, 0, 0, 0, 0, 0, 0, 0, 0, 0, 0, 0, 0, 0, 0, 0, 0, 0, 0, 0, 0, 0, 0, 0, 0, 0], 4)
  else
    if decide (vi < 0) then
      spend_Message_J2 N t_Version t_Inputs t_Outputs t_Lock vi o_Value o_Script true
    else
      spend_Message_J2 N t_Version t_Inputs t_Outputs t_Lock vi o_Value o_Script (decide ((t_Inputs.length : Int) ≤ vi))
def spend_Message (N : Nat) (t_Version : Int) (t_Inputs : List S_api_Input) (t_Outputs : List S_api_Output) (t_Lock : Int) (vi : Int) (o_Value : Int) (o_Script : List Int) : Option ((List Int) × Int) :=
  (spend_fits N t_Version t_Inputs t_Outputs t_Lock).bind fun x16 =>
  if !x16 then
    spend_Message_J1 N t_Version t_Inputs t_Outputs t_Lock vi o_Value o_Script true
  else
    if decide (o_Value < 0) then
      spend_Message_J1 N t_Version t_Inputs t_Outputs t_Lock vi o_Value o_Script true
    else
      spend_Message_J1 N t_Version t_Inputs t_Outputs t_Lock vi o_Value o_Script (decide (520 < (o_Script.length : Int)))
def ref01_little_J1 (N : Nat) (l0 : List Int) : Option (List Int) :=
  some l0
def ref01_little_L2 (N : Nat) (v : Int) (x8 : List Int) : Nat → Int → (List Int) → Option (List Int)
  | 0, _, _ => none
  | m + 1, x11, l0_1 =>
    if decide (x11 < (x8.length : Int)) then
      (shr .u64 v (IntKind.i64.wrap (8 * x11))).bind fun x19 =>
      (idx l0_1 x11).bind fun x21 =>
      (ref01_little_L2 N v x8 m) (IntKind.i64.wrap (x11 + 1)) (l0_1.set (Int.toNat x11) (IntKind.u8.wrap x19))
    else
      some l0_1
def ref01_little (N : Nat) (v : Int) (vn : Int) : Option (List Int) :=
  (mks 1 0 vn).bind fun x8 =>
  (ref01_little_L2 N v x8 N 0 x8).bind fun p2 =>
  ref01_little_J1 N p2
def ref01_joined (N : Nat) (va : List Int) (b : List Int) : Option (List Int) :=
  (mks 1 0 (IntKind.i64.wrap ((va.length : Int) + (b.length : Int)))).bind fun x11 =>
  (app 1 (x11.take 0) va).bind fun x14 =>
  (app 1 x14 b).bind fun x16 =>
  some x16
def ref01_AppendU32 (N : Nat) (b : List Int) (vn : Int) : Option (List Int) :=
  (ref01_little N (IntKind.u64.wrap vn) 4).bind fun x8 =>
  (ref01_joined N b x8).bind fun x9 =>
  some x9
def ref01_AppendSize (N : Nat) (b : List Int) (vn : Int) : Option (List Int) :=
  if decide (vn < 253) then
    (ref01_little N vn 1).bind fun x10 =>
    (ref01_joined N b x10).bind fun x11 =>
    some x11
  else
    if decide (vn < 65536) then
      (ref01_little N vn 2).bind fun x18 =>
      (ref01_joined N [253] x18).bind fun x19 =>
      (ref01_joined N b x19).bind fun x20 =>
      some x20
    else
      if decide (vn < 4294967296) then
        (ref01_little N vn 4).bind fun x27 =>
        (ref01_joined N [254] x27).bind fun x28 =>
        (ref01_joined N b x28).bind fun x29 =>
        some x29
      else
        (ref01_little N vn 8).bind fun x33 =>
        (ref01_joined N [255] x33).bind fun x34 =>
        (ref01_joined N b x34).bind fun x35 =>
        some x35
def ref01_AppendHash (N : Nat) (b : List Int) (vh : List Int) : Option (List Int) :=
  (arr 32 vh).bind fun q =>
  (ref01_joined N b vh).bind fun x7 =>
  some x7
def ref09_Point (N : Nat) (o_Tx : List Int) (o_Index : Int) : Option (List Int) :=
  (arr 32 o_Tx).bind fun q =>
  (ref01_AppendHash N [] o_Tx).bind fun x5 =>
  (ref01_AppendU32 N x5 o_Index).bind fun x8 =>
  some x8
def ref01_AppendU64 (N : Nat) (b : List Int) (vn : Int) : Option (List Int) :=
  (ref01_little N vn 8).bind fun x7 =>
  (ref01_joined N b x7).bind fun x8 =>
  some x8
def ref01_AppendBytes (N : Nat) (b : List Int) (vs : List Int) : Option (List Int) :=
  (ref01_AppendSize N b (IntKind.u64.wrap (vs.length : Int))).bind fun x9 =>
  (ref01_joined N x9 vs).bind fun x11 =>
  some x11
def ref09_Out (N : Nat) (o_Value : Int) (o_Script : List Int) : Option (List Int) :=
  (ref01_AppendU64 N [] (IntKind.u64.wrap o_Value)).bind fun x6 =>
  (ref01_AppendBytes N x6 o_Script).bind fun x9 =>
  some x9
def ref09_encode_J3 (N : Nat) (l0 : List Int) : Option (List Int) :=
  some l0
def ref09_encode_J5 (N : Nat) (t_Inputs : List S_api_Input) (witness : Bool) (x64 : Int) (rec : Int → (List Int) → Option (List Int)) (l0_2 : List Int) : Option (List Int) :=
  rec (IntKind.i64.wrap (x64 + 1)) l0_2
def ref09_encode_L6 (N : Nat) (t_Inputs : List S_api_Input) (witness : Bool) (x64 : Int) (x66 : S_api_Input) : Nat → Int → (List Int) → Option (List Int)
  | 0, _, _ => none
  | m + 1, x79, l0_3 =>
    if decide (x79 < (x66.Witness.length : Int)) then
      (idx x66.Witness x79).bind fun x81 =>
      (ref01_AppendBytes N l0_3 x81).bind fun x85 =>
      (ref09_encode_L6 N t_Inputs witness x64 x66 m) (IntKind.i64.wrap (x79 + 1)) x85
    else
      some l0_3
def ref09_encode_L4 (N : Nat) (t_Inputs : List S_api_Input) (witness : Bool) : Nat → Int → (List Int) → Option (List Int)
  | 0, _, _ => none
  | m + 1, x64, l0_1 =>
    if decide (x64 < (t_Inputs.length : Int)) then
      (idx t_Inputs x64).bind fun x66 =>
      if !witness then
        some l0_1
      else
        (ref01_AppendSize N l0_1 (IntKind.u64.wrap (x66.Witness.length : Int))).bind fun x75 =>
        (ref09_encode_L6 N t_Inputs witness x64 x66 N 0 x75).bind fun p6 =>
        ref09_encode_J5 N t_Inputs witness x64 (ref09_encode_L4 N t_Inputs witness m) p6
    else
      some l0_1
def ref09_encode_J2 (N : Nat) (t_Version : Int) (t_Inputs : List S_api_Input) (t_Outputs : List S_api_Output) (t_Lock : Int) (witness : Bool) (l1_1 : List Int) : Option (List Int) :=
  (ref01_AppendU32 N l1_1 t_Lock).bind fun x60 =>
  (ref09_encode_L4 N t_Inputs witness N 0 x60).bind fun p4 =>
  ref09_encode_J3 N p4
def ref09_encode_L7 (N : Nat) (t_Version : Int) (t_Inputs : List S_api_Input) (t_Outputs : List S_api_Output) (t_Lock : Int) (witness : Bool) : Nat → Int → (List Int) → Option (List Int)
  | 0, _, _ => none
  | m + 1, x48, l1_2 =>
    if decide (x48 < (t_Outputs.length : Int)) then
      (idx t_Outputs x48).bind fun x50 =>
      (ref09_Out N x50.Value x50.Script).bind fun x54 =>
      (app 1 l1_2 x54).bind fun x55 =>
      (ref09_encode_L7 N t_Version t_Inputs t_Outputs t_Lock witness m) (IntKind.i64.wrap (x48 + 1)) x55
    else
      some l1_2
def ref09_encode_J1 (N : Nat) (t_Version : Int) (t_Inputs : List S_api_Input) (t_Outputs : List S_api_Output) (t_Lock : Int) (witness : Bool) (l1 : List Int) : Option (List Int) :=
  (ref01_AppendSize N l1 (IntKind.u64.wrap (t_Outputs.length : Int))).bind fun x44 =>
  (ref09_encode_L7 N t_Version t_Inputs t_Outputs t_Lock witness N 0 x44).bind fun p7 =>
  ref09_encode_J2 N t_Version t_Inputs t_Outputs t_Lock witness p7
def ref09_encode_J9 (N : Nat) (t_Version : Int) (t_Inputs : List S_api_Input) (t_Outputs : List S_api_Output) (t_Lock : Int) (witness : Bool) (x26 : Int) (rec : Int → (List Int) → Option (List Int)) (l1_4 : List Int) : Option (List Int) :=
  rec (IntKind.i64.wrap (x26 + 1)) l1_4
def ref09_encode_L8 (N : Nat) (t_Version : Int) (t_Inputs : List S_api_Input) (t_Outputs : List S_api_Output) (t_Lock : Int) (witness : Bool) : Nat → Int → (List Int) → Option (List Int)
  | 0, _, _ => none
  | m + 1, x26, l1_3 =>
    if decide (x26 < (t_Inputs.length : Int)) then
      (idx t_Inputs x26).bind fun x28 =>
      (ref09_Point N x28.Prev.Tx x28.Prev.Index).bind fun x33 =>
      (app 1 l1_3 x33).bind fun x34 =>
      (ref01_AppendU32 N x34 x28.Sequence).bind fun x37 =>
      ref09_encode_J9 N t_Version t_Inputs t_Outputs t_Lock witness x26 (ref09_encode_L8 N t_Version t_Inputs t_Outputs t_Lock witness m) x37
    else
      some l1_3
def ref09_encode (N : Nat) (t_Version : Int) (t_Inputs : List S_api_Input) (t_Outputs : List S_api_Output) (t_Lock : Int) (witness : Bool) : Option (List Int) :=
  (ref01_AppendU32 N [] t_Version).bind fun x16 =>
  (ref01_AppendSize N x16 (IntKind.u64.wrap (t_Inputs.length : Int))).bind fun x22 =>
  (ref09_encode_L8 N t_Version t_Inputs t_Outputs t_Lock witness N 0 x22).bind fun p8 =>
  ref09_encode_J1 N t_Version t_Inputs t_Outputs t_Lock witness p8
def ref09_Fits_J3 (N : Nat) (t_Version : Int) (t_Inputs : List S_api_Input) (t_Outputs : List S_api_Output) (t_Lock : Int) : Option Bool :=
  (ref09_encode N t_Version t_Inputs t_Outputs t_Lock true).bind fun x60 =>
  some (decide ((x60.length : Int) ≤ 20000))
def ref09_Fits_J5 (N : Nat) (t_Version : Int) (t_Inputs : List S_api_Input) (t_Outputs : List S_api_Output) (t_Lock : Int) (x39 : Int) (rec : Int → Option (LR (Unit) (Bool))) : Option (LR (Unit) (Bool)) :=
  rec (IntKind.i64.wrap (x39 + 1))
def ref09_Fits_L6 (N : Nat) (t_Version : Int) (t_Inputs : List S_api_Input) (t_Outputs : List S_api_Output) (t_Lock : Int) (x39 : Int) (x41 : S_api_Input) : Nat → Int → Option (LR (Unit) (Bool))
  | 0, _ => none
  | m + 1, x50 =>
    if decide (x50 < (x41.Witness.length : Int)) then
      (idx x41.Witness x50).bind fun x52 =>
      if decide (520 < (x52.length : Int)) then
        some (.ret false)
      else
        (ref09_Fits_L6 N t_Version t_Inputs t_Outputs t_Lock x39 x41 m) (IntKind.i64.wrap (x50 + 1))
    else
      some (.brk ())
def ref09_Fits_L4 (N : Nat) (t_Version : Int) (t_Inputs : List S_api_Input) (t_Outputs : List S_api_Output) (t_Lock : Int) : Nat → Int → Option (LR (Unit) (Bool))
  | 0, _ => none
  | m + 1, x39 =>
    if decide (x39 < (t_Inputs.length : Int)) then
      (idx t_Inputs x39).bind fun x41 =>
      if decide (32 < (x41.Witness.length : Int)) then
        some (.ret false)
      else
        (ref09_Fits_L6 N t_Version t_Inputs t_Outputs t_Lock x39 x41 N 0).bind fun q => match q with
          | .ret v => some (.ret v)
          | .brk p6 =>
            ref09_Fits_J5 N t_Version t_Inputs t_Outputs t_Lock x39 (ref09_Fits_L4 N t_Version t_Inputs t_Outputs t_Lock m)
    else
      some (.brk ())
def ref09_Fits_J2 (N : Nat) (t_Version : Int) (t_Inputs : List S_api_Input) (t_Outputs : List S_api_Output) (t_Lock : Int) : Option Bool :=
  (ref09_Fits_L4 N t_Version t_Inputs t_Outputs t_Lock N 0).bind fun q => match q with
    | .ret v => some v
    | .brk p4 =>
      ref09_Fits_J3 N t_Version t_Inputs t_Outputs t_Lock
def ref09_Fits_J8 (N : Nat) (t_Version : Int) (t_Inputs : List S_api_Input) (t_Outputs : List S_api_Output) (t_Lock : Int) (x22 : Int) (rec : Int → Option (LR (Unit) (Bool))) (x34 : Bool) : Option (LR (Unit) (Bool)) :=
  if x34 then
    some (.ret false)
  else
    rec (IntKind.i64.wrap (x22 + 1))
def ref09_Fits_L7 (N : Nat) (t_Version : Int) (t_Inputs : List S_api_Input) (t_Outputs : List S_api_Output) (t_Lock : Int) : Nat → Int → Option (LR (Unit) (Bool))
  | 0, _ => none
  | m + 1, x22 =>
    if decide (x22 < (t_Outputs.length : Int)) then
      (idx t_Outputs x22).bind fun x24 =>
      if decide (x24.Value < 0) then
        ref09_Fits_J8 N t_Version t_Inputs t_Outputs t_Lock x22 (ref09_Fits_L7 N t_Version t_Inputs t_Outputs t_Lock m) true
      else
        ref09_Fits_J8 N t_Version t_Inputs t_Outputs t_Lock x22 (ref09_Fits_L7 N t_Version t_Inputs t_Outputs t_Lock m) (decide (520 < (x24.Script.length : Int)))
    else
      some (.brk ())
def ref09_Fits_J1 (N : Nat) (t_Version : Int) (t_Inputs : List S_api_Input) (t_Outputs : List S_api_Output) (t_Lock : Int) (x18 : Bool) : Option Bool :=
  if x18 then
    some false
  else
    (ref09_Fits_L7 N t_Version t_Inputs t_Outputs t_Lock N 0).bind fun q => match q with
      | .ret v => some v
      | .brk p7 =>
        ref09_Fits_J2 N t_Version t_Inputs t_Outputs t_Lock
def ref09_Fits (N : Nat) (t_Version : Int) (t_Inputs : List S_api_Input) (t_Outputs : List S_api_Output) (t_Lock : Int) : Option Bool :=
  if decide (64 < (t_Inputs.length : Int)) then
    ref09_Fits_J1 N t_Version t_Inputs t_Outputs t_Lock true
  else
    ref09_Fits_J1 N t_Version t_Inputs t_Outputs t_Lock (decide (64 < (t_Outputs.length : Int)))
def ref03_Pad_J2 (N : Nat) (l0_1 : List Int) : Option (List Int) :=
  some l0_1
def ref03_Pad_L3 (N : Nat) (vn : Int) : Nat → Int → (List Int) → Option (List Int)
  | 0, _, _ => none
  | m + 1, vi, l0_2 =>
    if decide (0 ≤ vi) then
      (shr .u64 (IntKind.u64.wrap (8 * vn)) (IntKind.i64.wrap (8 * vi))).bind fun x26 =>
      (app 1 l0_2 [IntKind.u8.wrap x26]).bind fun x29 =>
      (ref03_Pad_L3 N vn m) (IntKind.i64.wrap (vi - 1)) x29
    else
      some l0_2
def ref03_Pad_J1 (N : Nat) (vn : Int) (l0 : List Int) : Option (List Int) :=
  (ref03_Pad_L3 N vn N 7 l0).bind fun p3 =>
  ref03_Pad_J2 N p3
def ref03_Pad_L4 (N : Nat) (vn : Int) : Nat → (List Int) → Option (List Int)
  | 0, _ => none
  | m + 1, l0_3 =>
    if (Int.tmod (IntKind.u64.wrap ((IntKind.u64.wrap (vn + (IntKind.u64.wrap (l0_3.length : Int)))) + 8)) 64) != 0 then
      (app 1 l0_3 [0]).bind fun x16 =>
      (ref03_Pad_L4 N vn m) x16
    else
      some l0_3
def ref03_Pad (N : Nat) (vn : Int) : Option (List Int) :=
  (ref03_Pad_L4 N vn N [128]).bind fun p4 =>
  ref03_Pad_J1 N vn p4
def ref03_Initial (N : Nat) : Option (List Int) :=
  some [1779033703, 3144134277, 1013904242, 2773480762, 1359893119, 2600822924, 528734635, 1541459225]
def ref03_rotr (N : Nat) (x : Int) (vn : Int) : Option Int :=
  (math_bits_RotateLeft32 N x (IntKind.i64.wrap (0 - vn))).bind fun x8 =>
  some x8
def ref03_schedule_J2 (N : Nat) (l1_1 : List Int) : Option (List Int) :=
  (arr 64 l1_1).bind fun q =>
  some l1_1
def ref03_schedule_L3 (N : Nat) : Nat → Int → (List Int) → Option (List Int)
  | 0, _, _ => none
  | m + 1, vi, l1_2 =>
    if decide (vi < 64) then
      (aix 64 l1_2 (IntKind.i64.wrap (vi - 15))).bind fun x49 =>
      (ref03_rotr N x49 7).bind fun x51 =>
      (ref03_rotr N x49 18).bind fun x56 =>
      (shr .u32 x49 3).bind fun x62 =>
      (aix 64 l1_2 (IntKind.i64.wrap (vi - 2))).bind fun x66 =>
      (ref03_rotr N x66 17).bind fun x68 =>
      (ref03_rotr N x66 19).bind fun x73 =>
      (shr .u32 x66 10).bind fun x79 =>
      (aix 64 l1_2 (IntKind.i64.wrap (vi - 16))).bind fun x84 =>
      (aix 64 l1_2 (IntKind.i64.wrap (vi - 7))).bind fun x90 =>
      (aix 64 l1_2 vi).bind fun x95 =>
      (ref03_schedule_L3 N m) (IntKind.i64.wrap (vi + 1)) (l1_2.set (Int.toNat vi) (IntKind.u32.wrap ((IntKind.u32.wrap ((IntKind.u32.wrap (x84 + (bits .xor .u32 (bits .xor .u32 x51 x56) x62))) + x90)) + (bits .xor .u32 (bits .xor .u32 x68 x73) x79))))
    else
      some l1_2
def ref03_schedule_J1 (N : Nat) (l1 : List Int) : Option (List Int) :=
  (ref03_schedule_L3 N N 16 l1).bind fun p3 =>
  ref03_schedule_J2 N p3
def ref03_schedule_L4 (N : Nat) (block : List Int) : Nat → Int → (List Int) → Option (List Int)
  | 0, _, _ => none
  | m + 1, vi_1, l2 =>
    if decide (vi_1 < 16) then
      (aix 64 block (IntKind.i64.wrap (4 * vi_1))).bind fun x15 =>
      (shl .u32 (IntKind.u32.wrap x15) 24).bind fun x18 =>
      (aix 64 block (IntKind.i64.wrap ((IntKind.i64.wrap (4 * vi_1)) + 1))).bind fun x22 =>
      (shl .u32 (IntKind.u32.wrap x22) 16).bind fun x25 =>
      (aix 64 block (IntKind.i64.wrap ((IntKind.i64.wrap (4 * vi_1)) + 2))).bind fun x30 =>
      (shl .u32 (IntKind.u32.wrap x30) 8).bind fun x33 =>
      (aix 64 block (IntKind.i64.wrap ((IntKind.i64.wrap (4 * vi_1)) + 3))).bind fun x38 =>
      (aix 64 l2 vi_1).bind fun x42 =>
      (ref03_schedule_L4 N block m) (IntKind.i64.wrap (vi_1 + 1)) (l2.set (Int.toNat vi_1) (bits .or .u32 (bits .or .u32 (bits .or .u32 x18 x25) x33) (IntKind.u32.wrap x38)))
    else
      some l2
def ref03_schedule (N : Nat) (block : List Int) : Option (List Int) :=
  (ref03_schedule_L4 N block N 0 (List.replicate 64 0)).bind fun p4 =>
  ref03_schedule_J1 N p4
def ref03_constants (N : Nat) : Option (List Int) :=
  some [1116352408, 1899447441, 3049323471, 3921009573, 961987163, 1508970993, 2453635748, 2870763221, 3624381080, 310598401, 607225278, 1426881987, 1925078388, 2162078206, 2614888103, 3248222580, 3835390401, 4022224774, 264347078, 604807628, 770255983, 1249150122, 1555081692, 1996064986, 2554220882, 2821834349, 2952996808, 3210313671, 3336571891, 3584528711, 113926993, 338241895, 666307205, 773529912, 1294757372, 1396182291, 1695183700, 1986661051, 2177026350, 2456956037, 2730485921, 2820302411, 3259730800, 3345764771, 3516065817, 3600352804, 4094571909, 275423344, 430227734, 506948616, 659060556, 883997877, 958139571, 1322822218, 1537002063, 1747873779, 1955562222, 2024104815, 2227730452, 2361852424, 2428436474, 2756734187, 3204031479, 3329325298]
def ref03_Compress_J1 (N : Nat) (state : List Int) (va : Int) (b : Int) (c : Int) (d : Int) (ve : Int) (f : Int) (g : Int) (vh : Int) : Option (List Int) :=
  (aix 8 state 0).bind fun x100 =>
  (aix 8 state 1).bind fun x104 =>
  (aix 8 state 2).bind fun x108 =>
  (aix 8 state 3).bind fun x112 =>
  (aix 8 state 4).bind fun x116 =>
  (aix 8 state 5).bind fun x120 =>
  (aix 8 state 6).bind fun x124 =>
  (aix 8 state 7).bind fun x128 =>
  some [IntKind.u32.wrap (x100 + va), IntKind.u32.wrap (x104 + b), IntKind.u32.wrap (x108 + c), IntKind.u32.wrap (x112 + d), IntKind.u32.wrap (x116 + ve), IntKind.u32.wrap (x120 + f), IntKind.u32.wrap (x124 + g), IntKind.u32.wrap (x128 + vh)]
def ref03_Compress_L2 (N : Nat) (state : List Int) (x19 : (List Int)) (x20 : (List Int)) : Nat → Int → Int → Int → Int → Int → Int → Int → Int → Int → Option (Int × Int × Int × Int × Int × Int × Int × Int)
  | 0, _, _, _, _, _, _, _, _, _ => none
  | m + 1, va_1, b_1, c_1, d_1, ve_1, f_1, g_1, vh_1, vi =>
    if decide (vi < 64) then
      (ref03_rotr N ve_1 6).bind fun x43 =>
      (ref03_rotr N ve_1 11).bind fun x45 =>
      (ref03_rotr N ve_1 25).bind fun x48 =>
      (aix 64 x20 vi).bind fun x61 =>
      (aix 64 x19 vi).bind fun x65 =>
      (ref03_rotr N va_1 2).bind fun x69 =>
      (ref03_rotr N va_1 13).bind fun x71 =>
      (ref03_rotr N va_1 22).bind fun x74 =>
      (ref03_Compress_L2 N state x19 x20 m) (IntKind.u32.wrap ((IntKind.u32.wrap ((IntKind.u32.wrap ((IntKind.u32.wrap ((IntKind.u32.wrap (vh_1 + (bits .xor .u32 (bits .xor .u32 x43 x45) x48))) + (bits .xor .u32 (bits .and .u32 ve_1 f_1) (bits .and .u32 (bits .xor .u32 (IntKind.max .u32) ve_1) g_1)))) + x61)) + x65)) + (IntKind.u32.wrap ((bits .xor .u32 (bits .xor .u32 x69 x71) x74) + (bits .xor .u32 (bits .xor .u32 (bits .and .u32 va_1 b_1) (bits .and .u32 va_1 c_1)) (bits .and .u32 b_1 c_1)))))) va_1 b_1 c_1 (IntKind.u32.wrap (d_1 + (IntKind.u32.wrap ((IntKind.u32.wrap ((IntKind.u32.wrap ((IntKind.u32.wrap (vh_1 + (bits .xor .u32 (bits .xor .u32 x43 x45) x48))) + (bits .xor .u32 (bits .and .u32 ve_1 f_1) (bits .and .u32 (bits .xor .u32 (IntKind.max .u32) ve_1) g_1)))) + x61)) + x65)))) ve_1 f_1 g_1 (IntKind.i64.wrap (vi + 1))
    else
      some (va_1, b_1, c_1, d_1, ve_1, f_1, g_1, vh_1)
def ref03_Compress (N : Nat) (state : List Int) (block : List Int) : Option (List Int) :=
  (arr 64 block).bind fun q =>
  (ref03_schedule N block).bind fun x19 =>
  (ref03_constants N).bind fun x20 =>
  (arr 64 x19).bind fun q_1 =>
  (arr 64 x20).bind fun q_2 =>
  (aix 8 state 0).bind fun x21 =>
  (aix 8 state 1).bind fun x23 =>
  (aix 8 state 2).bind fun x25 =>
  (aix 8 state 3).bind fun x27 =>
  (aix 8 state 4).bind fun x29 =>
  (aix 8 state 5).bind fun x31 =>
  (aix 8 state 6).bind fun x33 =>
  (aix 8 state 7).bind fun x35 =>
  (ref03_Compress_L2 N state x19 x20 N x21 x23 x25 x27 x29 x31 x33 x35 0).bind fun p2 =>
  ref03_Compress_J1 N state p2.1 p2.2.1 p2.2.2.1 p2.2.2.2.1 p2.2.2.2.2.1 p2.2.2.2.2.2.1 p2.2.2.2.2.2.2.1 p2.2.2.2.2.2.2.2
def ref03_Sum_J2 (N : Nat) (l1_1 : List Int) : Option (List Int) :=
  (arr 32 l1_1).bind fun q_1 =>
  some l1_1
def ref03_Sum_L3 (N : Nat) (l1 : List Int) : Nat → Int → (List Int) → Option (List Int)
  | 0, _, _ => none
  | m + 1, x34, l1_2 =>
    if decide (x34 < 8) then
      (aix 8 l1 x34).bind fun x37 =>
      (shr .u32 x37 24).bind fun x50 =>
      (shr .u32 x37 16).bind fun x53 =>
      (shr .u32 x37 8).bind fun x56 =>
      (aix 32 l1_2 (IntKind.i64.wrap (4 * x34))).bind fun x60 =>
      (aix 32 (l1_2.set (Int.toNat (IntKind.i64.wrap (4 * x34))) (IntKind.u8.wrap x50)) (IntKind.i64.wrap ((IntKind.i64.wrap (4 * x34)) + 1))).bind fun x61 =>
      (aix 32 ((l1_2.set (Int.toNat (IntKind.i64.wrap (4 * x34))) (IntKind.u8.wrap x50)).set (Int.toNat (IntKind.i64.wrap ((IntKind.i64.wrap (4 * x34)) + 1))) (IntKind.u8.wrap x53)) (IntKind.i64.wrap ((IntKind.i64.wrap (4 * x34)) + 2))).bind fun x62 =>
      (aix 32 (((l1_2.set (Int.toNat (IntKind.i64.wrap (4 * x34))) (IntKind.u8.wrap x50)).set (Int.toNat (IntKind.i64.wrap ((IntKind.i64.wrap (4 * x34)) + 1))) (IntKind.u8.wrap x53)).set (Int.toNat (IntKind.i64.wrap ((IntKind.i64.wrap (4 * x34)) + 2))) (IntKind.u8.wrap x56)) (IntKind.i64.wrap ((IntKind.i64.wrap (4 * x34)) + 3))).bind fun x63 =>
      (ref03_Sum_L3 N l1 m) (IntKind.i64.wrap (x34 + 1)) ((((l1_2.set (Int.toNat (IntKind.i64.wrap (4 * x34))) (IntKind.u8.wrap x50)).set (Int.toNat (IntKind.i64.wrap ((IntKind.i64.wrap (4 * x34)) + 1))) (IntKind.u8.wrap x53)).set (Int.toNat (IntKind.i64.wrap ((IntKind.i64.wrap (4 * x34)) + 2))) (IntKind.u8.wrap x56)).set (Int.toNat (IntKind.i64.wrap ((IntKind.i64.wrap (4 * x34)) + 3))) (IntKind.u8.wrap x37))
    else
      some l1_2
def ref03_Sum_J1 (N : Nat) (l1 : List Int) : Option (List Int) :=
  (arr 8 l1).bind fun q_2 =>
  (ref03_Sum_L3 N l1 N 0 (List.replicate 32 0)).bind fun p3 =>
  ref03_Sum_J2 N p3
def ref03_Sum_L4 (N : Nat) (x16 : List Int) : Nat → Int → (List Int) → Option (List Int)
  | 0, _, _ => none
  | m + 1, vi, l1_3 =>
    if decide ((IntKind.i64.wrap (vi + 64)) ≤ (x16.length : Int)) then
      (sub x16 vi (x16.length : Int)).bind fun x28 =>
      (arr 8 l1_3).bind fun q_3 =>
      (arr 64 (cpy (List.replicate 64 0) x28)).bind fun q_4 =>
      (ref03_Compress N l1_3 (cpy (List.replicate 64 0) x28)).bind fun x32 =>
      (arr 8 x32).bind fun q_5 =>
      (ref03_Sum_L4 N x16 m) (IntKind.i64.wrap (vi + 64)) x32
    else
      some l1_3
def ref03_Sum (N : Nat) (b : List Int) : Option (List Int) :=
  (app 1 [] b).bind fun x11 =>
  (ref03_Pad N (IntKind.u64.wrap (b.length : Int))).bind fun x15 =>
  (app 1 x11 x15).bind fun x16 =>
  (ref03_Initial N).bind fun x17 =>
  (arr 8 x17).bind fun q =>
  (ref03_Sum_L4 N x16 N 0 x17).bind fun p4 =>
  ref03_Sum_J1 N p4
def ref03_Tagged_J1 (N : Nat) (l0 : List Int) : Option (List Int) :=
  (arr 32 l0).bind fun q_1 =>
  some l0
def ref03_Tagged (N : Nat) (tag : ByteArray) (b : List Int) : Option (List Int) :=
  (stb tag).bind fun x7 =>
  (ref03_Sum N x7).bind fun x8 =>
  (arr 32 x8).bind fun q =>
  (app 1 [] x8).bind fun x10 =>
  (app 1 x10 x8).bind fun x12 =>
  (app 1 x12 b).bind fun x14 =>
  (ref03_Sum N x14).bind fun x15 =>
  (arr 32 x15).bind fun q_2 =>
  ref03_Tagged_J1 N x15
def ref10_Message_J4 (N : Nat) (t_Version : Int) (t_Inputs : List S_api_Input) (t_Outputs : List S_api_Output) (t_Lock : Int) (vi : Int) (o_Value : Int) (o_Script : List Int) (l3 : List Int) (l4 : List Int) (l5 : List Int) : Option ((List Int) × Int) :=
  (ref01_AppendU32 N [] t_Version).bind fun x72 =>
  (ref03_Sum N l3).bind fun x75 =>
  (ref01_AppendHash N x72 x75).bind fun x76 =>
  (ref03_Sum N l4).bind fun x79 =>
  (ref01_AppendHash N x76 x79).bind fun x80 =>
  (ref03_Sum N l5).bind fun x83 =>
  (ref01_AppendHash N x80 x83).bind fun x84 =>
  (ref01_AppendU32 N x84 t_Lock).bind fun x88 =>
  (ref01_AppendU32 N x88 (IntKind.u32.wrap vi)).bind fun x92 =>
  (ref09_Out N o_Value o_Script).bind fun x95 =>
  (app 1 x92 x95).bind fun x96 =>
  (ref03_Tagged N (⟨#[108, 105, 103, 104, 116, 99, 108, 105, 101, 110, 116, 47, 115, 112, 101, 110, 100]⟩) x96).bind fun x97 =>
  (arr 32 x97).bind fun q =>
  some (x97, 0)
def ref10_Message_L5 (N : Nat) (t_Version : Int) (t_Inputs : List S_api_Input) (t_Outputs : List S_api_Output) (t_Lock : Int) (vi : Int) (o_Value : Int) (o_Script : List Int) (l3 : List Int) (l4 : List Int) : Nat → Int → (List Int) → Option (List Int)
  | 0, _, _ => none
  | m + 1, x61, l5_1 =>
    if decide (x61 < (t_Outputs.length : Int)) then
      (idx t_Outputs x61).bind fun x63 =>
      (ref09_Out N x63.Value x63.Script).bind fun x67 =>
      (app 1 l5_1 x67).bind fun x68 =>
      (ref10_Message_L5 N t_Version t_Inputs t_Outputs t_Lock vi o_Value o_Script l3 l4 m) (IntKind.i64.wrap (x61 + 1)) x68
    else
      some l5_1
def ref10_Message_J3 (N : Nat) (t_Version : Int) (t_Inputs : List S_api_Input) (t_Outputs : List S_api_Output) (t_Lock : Int) (vi : Int) (o_Value : Int) (o_Script : List Int) (l3 : List Int) (l4 : List Int) : Option ((List Int) × Int) :=
  (ref10_Message_L5 N t_Version t_Inputs t_Outputs t_Lock vi o_Value o_Script l3 l4 N 0 []).bind fun p5 =>
  ref10_Message_J4 N t_Version t_Inputs t_Outputs t_Lock vi o_Value o_Script l3 l4 p5
def ref10_Message_L6 (N : Nat) (t_Version : Int) (t_Inputs : List S_api_Input) (t_Outputs : List S_api_Output) (t_Lock : Int) (vi : Int) (o_Value : Int) (o_Script : List Int) : Nat → Int → (List Int) → (List Int) → Option ((List Int) × (List Int))
  | 0, _, _, _ => none
  | m + 1, x44, l3_1, l4_1 =>
    if decide (x44 < (t_Inputs.length : Int)) then
      (idx t_Inputs x44).bind fun x46 =>
      (ref09_Point N x46.Prev.Tx x46.Prev.Index).bind fun x51 =>
      (app 1 l3_1 x51).bind fun x52 =>
      (ref01_AppendU32 N l4_1 x46.Sequence).bind fun x56 =>
      (ref10_Message_L6 N t_Version t_Inputs t_Outputs t_Lock vi o_Value o_Script m) (IntKind.i64.wrap (x44 + 1)) x52 x56
    else
      some (l3_1, l4_1)
def ref10_Message_J2 (N : Nat) (t_Version : Int) (t_Inputs : List S_api_Input) (t_Outputs : List S_api_Output) (t_Lock : Int) (vi : Int) (o_Value : Int) (o_Script : List Int) (x39 : Bool) : Option ((List Int) × Int) :=
  if x39 then
    some ([0, 0, 0, 0, 0, 0, 0, 0, 0, 0, 0, 0, 0, 0, 0, 0, 0, 0, 0, 0, 0, 0, 0, 0, 0, 0, 0, 0, 0, 0, 0, 0], 5)
  else
    (ref10_Message_L6 N t_Version t_Inputs t_Outputs t_Lock vi o_Value o_Script N 0 [] []).bind fun p6 =>
    ref10_Message_J3 N t_Version t_Inputs t_Outputs t_Lock vi o_Value o_Script p6.1 p6.2
def ref10_Message_J1 (N : Nat) (t_Version : Int) (t_Inputs : List S_api_Input) (t_Outputs : List S_api_Output) (t_Lock : Int) (vi : Int) (o_Value : Int) (o_Script : List Int) (x29 : Bool) : Option ((List Int) × Int) :=
  if x29 then
    some ([0, 0, 0, 0, 0, 0, 0, 0, 0, 0, 0, 0, 0, 0, 0, 0, 0, 0, 0, 0, 0, 0, 0, 0, 0, 0, 0, 0, 0, 0, 0, 0], 4)
  else
    if decide (vi < 0) then
      ref10_Message_J2 N t_Version t_Inputs t_Outputs t_Lock vi o_Value o_Script true
    else
      ref10_Message_J2 N t_Version t_Inputs t_Outputs t_Lock vi o_Value o_Script (decide ((t_Inputs.length : Int) ≤ vi))
def ref10_Message (N : Nat) (t_Version : Int) (t_Inputs : List S_api_Input) (t_Outputs : List S_api_Output) (t_Lock : Int) (vi : Int) (o_Value : Int) (o_Script : List Int) : Option ((List Int) × Int) :=
  (ref09_Fits N t_Version t_Inputs t_Outputs t_Lock).bind fun x17 =>
  if !x17 then
    ref10_Message_J1 N t_Version t_Inputs t_Outputs t_Lock vi o_Value o_Script true
  else
    if decide (o_Value < 0) then
      ref10_Message_J1 N t_Version t_Inputs t_Outputs t_Lock vi o_Value o_Script true
    else
      ref10_Message_J1 N t_Version t_Inputs t_Outputs t_Lock vi o_Value o_Script (decide (520 < (o_Script.length : Int)))
def law10_SpendMessages_J2 (N : Nat) (x6 : Bool) : Option Bool :=
  some x6
def law10_SpendMessages_J1 (N : Nat) (t_Version : Int) (t_Inputs : List S_api_Input) (t_Outputs : List S_api_Output) (t_Lock : Int) (vi : Int) (o_Value : Int) (o_Script : List Int) (x21 : Bool) : Option Bool :=
  if x21 then
    some true
  else
    (spend_Message N t_Version t_Inputs t_Outputs t_Lock vi o_Value o_Script).bind fun x26 =>
    (arr 32 x26.1).bind fun q =>
    (ref10_Message N t_Version t_Inputs t_Outputs t_Lock vi o_Value o_Script).bind fun x33 =>
    (arr 32 x33.1).bind fun q_1 =>
    if x26.1 == x33.1 then
      law10_SpendMessages_J2 N (x26.2 == x33.2)
    else
      law10_SpendMessages_J2 N false
def law10_SpendMessages (N : Nat) (t_Version : Int) (t_Inputs : List S_api_Input) (t_Outputs : List S_api_Output) (t_Lock : Int) (vi : Int) (o_Value : Int) (o_Script : List Int) : Option Bool :=
  (law10_sane N).bind fun x11 =>
  if !x11 then
    some false
  else
    (keep_Tx N t_Version t_Inputs t_Outputs t_Lock).bind fun x14 =>
    if !x14 then
      law10_SpendMessages_J1 N t_Version t_Inputs t_Outputs t_Lock vi o_Value o_Script true
    else
      law10_SpendMessages_J1 N t_Version t_Inputs t_Outputs t_Lock vi o_Value o_Script (decide (600 < (o_Script.length : Int)))
def law10_SpendUnwitnessed_J3 (N : Nat) (x6 : Bool) : Option Bool :=
  some x6
def law10_SpendUnwitnessed_J2 (N : Nat) (t_Version : Int) (t_Outputs : List S_api_Output) (t_Lock : Int) (o_Value : Int) (o_Script : List Int) (x36 : Int) (x41 : (List Int) × Int) (l3 : List S_api_Input) : Option Bool :=
  (spend_Message N t_Version l3 t_Outputs t_Lock x36 o_Value o_Script).bind fun x65 =>
  (arr 32 x65.1).bind fun q_1 =>
  if x41.2 != 0 then
    law10_SpendUnwitnessed_J3 N true
  else
    if x65.2 == 0 then
      law10_SpendUnwitnessed_J3 N (x41.1 == x65.1)
    else
      law10_SpendUnwitnessed_J3 N false
def law10_SpendUnwitnessed_L4 (N : Nat) (t_Version : Int) (t_Outputs : List S_api_Output) (t_Lock : Int) (o_Value : Int) (o_Script : List Int) (x36 : Int) (x41 : (List Int) × Int) (x47 : List S_api_Input) : Nat → Int → (List S_api_Input) → Option (List S_api_Input)
  | 0, _, _ => none
  | m + 1, x52, l3_1 =>
    if decide (x52 < (x47.length : Int)) then
      (idx l3_1 x52).bind fun x58 =>
      (law10_SpendUnwitnessed_L4 N t_Version t_Outputs t_Lock o_Value o_Script x36 x41 x47 m) (IntKind.i64.wrap (x52 + 1)) (l3_1.set (Int.toNat x52) (S_api_Input.mk x58.Prev x58.Sequence []))
    else
      some l3_1
def law10_SpendUnwitnessed_J1 (N : Nat) (t_Version : Int) (t_Inputs : List S_api_Input) (t_Outputs : List S_api_Output) (t_Lock : Int) (o_Value : Int) (o_Script : List Int) (vi : Int) (x30 : Bool) : Option Bool :=
  if x30 then
    some true
  else
    (rem (IntKind.i64.wrap vi) (t_Inputs.length : Int)).bind fun x36 =>
    (spend_Message N t_Version t_Inputs t_Outputs t_Lock x36 o_Value o_Script).bind fun x41 =>
    (arr 32 x41.1).bind fun q =>
    (app 64 [] t_Inputs).bind fun x47 =>
    (law10_SpendUnwitnessed_L4 N t_Version t_Outputs t_Lock o_Value o_Script x36 x41 x47 N 0 x47).bind fun p4 =>
    law10_SpendUnwitnessed_J2 N t_Version t_Outputs t_Lock o_Value o_Script x36 x41 p4
def law10_SpendUnwitnessed (N : Nat) (t_Version : Int) (t_Inputs : List S_api_Input) (t_Outputs : List S_api_Output) (t_Lock : Int) (o_Value : Int) (o_Script : List Int) (vi : Int) : Option Bool :=
  (law10_sane N).bind fun x14 =>
  if !x14 then
    some false
  else
    (keep_Tx N t_Version t_Inputs t_Outputs t_Lock).bind fun x17 =>
    if !x17 then
      law10_SpendUnwitnessed_J1 N t_Version t_Inputs t_Outputs t_Lock o_Value o_Script vi true
    else
      if (t_Inputs.length : Int) == 0 then
        law10_SpendUnwitnessed_J1 N t_Version t_Inputs t_Outputs t_Lock o_Value o_Script vi true
      else
        law10_SpendUnwitnessed_J1 N t_Version t_Inputs t_Outputs t_Lock o_Value o_Script vi ((t_Outputs.length : Int) == 0)
end Go.Proofs.YtnoofjkaeidagaaDoor
set_option linter.unusedSimpArgs false
set_option linter.unusedVariables false
namespace Go.Vm
open Go Go.ChangeShapes Go.WideShapes Go.ChangeAt Go.RowKit
section
variable {P : Program} {t e : TypeId}
theorem VCells_map {α : Type} {w : World} {E : α → V} : ∀ (l : List α) (vs : List Value), l.length = vs.length → (∀ (i : Nat) (x : α) (v : Value), l[i]? = some x → vs[i]? = some v → VR NoX [] w (E x) v) → VCells NoX [] w (l.map E) vs
  | [], [], _, _ => VCells_nil
  | [], _ :: _, h, _ => by cases h
  | _ :: _, [], h, _ => by cases h
  | x :: l, v :: vs, h, k => VCells_cons (k 0 x v rfl rfl) (VCells_map l vs (by simpa using h) fun i x' v' h1 h2 => k (i + 1) x' v' (by simpa using h1) (by simpa using h2))
theorem opens_array {n : Nat} {k : IntKind} (ht : P.underlying t = some (.array n e)) (he : P.underlying e = some (.int k)) (h1 : P.cellsOf e = 1) (hn : P.cellsOf t = n) :
    Opens P t (fun x : {l : List Int // l.length = n} => ∀ y ∈ x.1, (Lit.int k y).wf = true) (fun x => x.1.map (eI k)) := by
  intro H enc w spare held fuel cs x h
  obtain ⟨xs, m, _, _, hl, hxs, hf⟩ := DataW.trod_array ht h
  rw [hn] at hl
  have each : ∀ i, i < n → ∃ a : Int, (Lit.int k a).wf = true ∧ ∀ v, cs[i]? = some v → VR NoX [] w (eI k a) v := by
    intro i hi
    have h2 := hf i hi
    rw [h1, Nat.mul_one, List.getElem?_eq_getElem (by omega)] at h2
    obtain ⟨a, hw, hc⟩ := opens_int he h2
    refine ⟨a, hw, fun v hv => ?_⟩
    have e2 : (cs.drop i).take 1 = [v] := by
      obtain ⟨hic, rfl⟩ := List.getElem?_eq_some_iff.1 hv
      rw [List.drop_eq_getElem_cons hic]; rfl
    rw [e2] at hc
    exact VCells_get1 hc
  obtain ⟨l, hll, hr⟩ := list_choice n each
  refine ⟨⟨l, hll⟩, fun y hy => ?_, VCells_map l cs (by omega) fun i x v h1 h2 => (hr i x h1).2 v h2⟩
  obtain ⟨i, hi, rfl⟩ := List.mem_iff_getElem.1 hy
  exact (hr i _ (List.getElem?_eq_getElem hi)).1
theorem okWide_array {w : World} {r : Reach} {base : Nat} {v : Value} {n : Nat} (ht : P.underlying t = some (.array n e)) (h : Value.okWide P w r base t v) : ∃ cs, v = .agg cs := by
  simp only [Value.okWide, ht] at h
  obtain ⟨cs, h1, _⟩ := h
  exact ⟨cs, h1⟩
theorem openV_array {n : Nat} {k : IntKind} (ht : P.underlying t = some (.array n e)) (he : P.underlying e = some (.int k)) (h1 : P.cellsOf e = 1) (hn : P.cellsOf t = n) :
    OpenV P t (fun x : {l : List Int // l.length = n} => ∀ y ∈ x.1, (Lit.int k y).wf = true) (fun x => eA (eI k) x.1) := by
  intro H enc w base v d p hv ⟨fuel, h⟩
  obtain ⟨cs, rfl⟩ := okWide_array ht hv
  obtain ⟨a, hq, hc⟩ := opens_array ht he h1 hn h
  exact ⟨a, hq, by have := VR_agg hc; simpa [Value.cells] using this⟩
theorem openV_arrays {n : Nat} {k : IntKind} {s : TypeId} (hs : P.underlying s = some (.slice t)) (ht : P.underlying t = some (.array n e)) (he : P.underlying e = some (.int k)) (h1 : P.cellsOf e = 1) (hn : P.cellsOf t = n) (h0 : 0 < n) :
    OpenV P s (fun l : List (List Int) => ∀ x ∈ l, x.length = n ∧ ∀ y ∈ x, (Lit.int k y).wf = true) (eL n (eA (eI k))) := by
  intro H enc w base v d p hv hh
  obtain ⟨a, hq, hc⟩ := openV_slice hs (opens_array ht he h1 hn) hn h0 (elem_agg (K := n) (C := fun x : {l : List Int // l.length = n} => x.1.map (eI k)) (fun x => by simp [x.2]) (fun x => List.all_eq_true.2 fun y hy => by simp only [List.mem_map] at hy; obtain ⟨z, _, rfl⟩ := hy; rfl)) hv hh
  refine ⟨a.map (·.1), fun x hx => ?_, ?_⟩
  · simp only [List.mem_map] at hx
    obtain ⟨y, hy, rfl⟩ := hx
    exact ⟨y.2, hq y hy⟩
  · have : (eL n (eA (eI k)) (a.map (·.1))) = eL n (fun x : {l : List Int // l.length = n} => V.agg (x.1.map (eI k))) a := by
      simp only [eL, List.map_map]; rfl
    rw [this]; exact hc
theorem opens_arr {n : Nat} {k : IntKind} (ht : P.underlying t = some (.array n e)) (he : P.underlying e = some (.int k)) (h1 : P.cellsOf e = 1) (hn : P.cellsOf t = n) :
    Opens P t (fun x : List Int => x.length = n ∧ ∀ y ∈ x, (Lit.int k y).wf = true) (fun x => x.map (eI k)) := by
  intro H enc w spare held fuel cs x h
  obtain ⟨a, hq, hc⟩ := opens_array ht he h1 hn h
  exact ⟨a.1, ⟨a.2, hq⟩, hc⟩
theorem openV_arr {n : Nat} {k : IntKind} (ht : P.underlying t = some (.array n e)) (he : P.underlying e = some (.int k)) (h1 : P.cellsOf e = 1) (hn : P.cellsOf t = n) :
    OpenV P t (fun x : List Int => x.length = n ∧ ∀ y ∈ x, (Lit.int k y).wf = true) (fun x => eA (eI k) x) := by
  intro H enc w base v d p hv hh
  obtain ⟨a, hq, hc⟩ := openV_array ht he h1 hn hv hh
  exact ⟨a.1, ⟨a.2, hq⟩, hc⟩
theorem opens_arrays {n : Nat} {k : IntKind} {s : TypeId} (hs : P.underlying s = some (.slice t)) (ht : P.underlying t = some (.array n e)) (he : P.underlying e = some (.int k)) (h1 : P.cellsOf e = 1) (hn : P.cellsOf t = n) (h0 : 0 < n) :
    Opens P s (fun l : List (List Int) => ∀ x ∈ l, x.length = n ∧ ∀ y ∈ x, (Lit.int k y).wf = true) (fun l => [.row none n (l.map (eA (eI k)))]) := by
  intro H enc w spare held fuel cs x h
  obtain ⟨a, hq, hc⟩ := opens_slice hs (opens_array ht he h1 hn) hn h0 (elem_agg (K := n) (C := fun x : {l : List Int // l.length = n} => x.1.map (eI k)) (fun x => by simp [x.2]) (fun x => List.all_eq_true.2 fun y hy => by simp only [List.mem_map] at hy; obtain ⟨z, _, rfl⟩ := hy; rfl)) h
  refine ⟨a.map (·.1), fun x hx => ?_, ?_⟩
  · simp only [List.mem_map] at hx
    obtain ⟨y, hy, rfl⟩ := hx
    exact ⟨y.2, hq y hy⟩
  · have : (a.map (·.1)).map (eA (eI k)) = a.map (fun x : {l : List Int // l.length = n} => V.agg (x.1.map (eI k))) := by
      simp only [List.map_map]; rfl
    dsimp only
    rw [this]; exact hc
theorem VCells_app {w : World} : ∀ {A B : List V} {us bs : List Value}, VCells NoX [] w A us → VCells NoX [] w B bs → VCells NoX [] w (A ++ B) (us ++ bs)
  | [], B, us, bs, h, k => by
    unfold VCells at h
    subst h
    exact k
  | a :: A, B, us, bs, h, k => by
    unfold VCells at h
    obtain ⟨v, rest, rfl, h1, h2⟩ := h
    exact VCells_cons h1 (VCells_app h2 k)
theorem VCells_at {w : World} {A B : List V} {cs : List Value} {o n : Nat} (h : VCells NoX [] w A ((cs.drop o).take n)) (k : VCells NoX [] w B (cs.drop (o + n))) : VCells NoX [] w (A ++ B) (cs.drop o) := by
  have e : cs.drop o = (cs.drop o).take n ++ cs.drop (o + n) := by rw [← List.drop_drop, List.take_append_drop]
  rw [e]
  exact VCells_app h k
theorem VCells_end {w : World} {cs : List Value} {n : Nat} (h : cs.length = n) : VCells NoX [] w [] (cs.drop n) := by
  rw [List.drop_eq_nil_of_le (by omega)]; exact VCells_nil
end
end Go.Vm
set_option linter.unusedSimpArgs false
set_option linter.unusedVariables false
namespace Go.Proofs.YtnoofjkaeidagaaDoor
open Go Go.Vm
open Go.ChangeShapes Go.WideShapes Go.ChangeAt Go.RowKit
def Q_api_OutPoint (x : S_api_OutPoint) : Prop := (x.Tx.length = 32 ∧ ∀ z0 ∈ x.Tx, (Lit.int .u8 z0).wf = true) ∧ ((Lit.int .u32 x.Index).wf = true)
set_option maxRecDepth 100000 in
theorem opens_api_OutPoint : Opens Tryd.prog 39 Q_api_OutPoint C_api_OutPoint := by
  intro H enc w spare held fuel cs x h
  obtain ⟨xs, n, _, _, hl, hlen, hf⟩ := DataW.trod_struct Tryd.underlying39 h
  rw [show Tryd.prog.cellsOf 39 = 33 by kernel_rfl] at hl
  match xs, hlen, hf with
  | [y0, y1], _, hf =>
    have h0 : DataW.trod enc Tryd.prog w 0 spare held n 33 ((cs.drop 0).take (Tryd.prog.cellsOf 33)) = some y0 := hf 0 _ rfl
    obtain ⟨a0, q0, c0⟩ := (opens_arr Tryd.underlying33 Tryd.underlying5 (by kernel_rfl) (by kernel_rfl)) h0
    rw [show Tryd.prog.cellsOf 33 = 32 by kernel_rfl] at c0
    have h1 : DataW.trod enc Tryd.prog w 0 spare held n 22 ((cs.drop 32).take (Tryd.prog.cellsOf 22)) = some y1 := hf 1 _ rfl
    obtain ⟨a1, q1, c1⟩ := (opens_int Tryd.underlying22) h1
    rw [show Tryd.prog.cellsOf 22 = 1 by kernel_rfl] at c1
    refine ⟨⟨a0, a1⟩, ⟨q0, q1⟩, ?_⟩
    have c := (VCells_at (o := 0) c0 (VCells_at (o := 32) c1 (VCells_end hl)))
    simp only [C_api_OutPoint, ar32_map q0.1]
    exact c
def Q_api_Input (x : S_api_Input) : Prop := (Q_api_OutPoint x.Prev) ∧ ((Lit.int .u32 x.Sequence).wf = true) ∧ (∀ z0 ∈ x.Witness, ∀ z1 ∈ z0, (Lit.int .u8 z1).wf = true)
set_option maxRecDepth 100000 in
theorem opens_api_Input : Opens Tryd.prog 42 Q_api_Input C_api_Input := by
  intro H enc w spare held fuel cs x h
  obtain ⟨xs, n, _, _, hl, hlen, hf⟩ := DataW.trod_struct Tryd.underlying42 h
  rw [show Tryd.prog.cellsOf 42 = 35 by kernel_rfl] at hl
  match xs, hlen, hf with
  | [y0, y1, y2], _, hf =>
    have h0 : DataW.trod enc Tryd.prog w 0 spare held n 39 ((cs.drop 0).take (Tryd.prog.cellsOf 39)) = some y0 := hf 0 _ rfl
    obtain ⟨a0, q0, c0⟩ := opens_api_OutPoint h0
    rw [show Tryd.prog.cellsOf 39 = 33 by kernel_rfl] at c0
    have h1 : DataW.trod enc Tryd.prog w 0 spare held n 22 ((cs.drop 33).take (Tryd.prog.cellsOf 22)) = some y1 := hf 1 _ rfl
    obtain ⟨a1, q1, c1⟩ := (opens_int Tryd.underlying22) h1
    rw [show Tryd.prog.cellsOf 22 = 1 by kernel_rfl] at c1
    have h2 : DataW.trod enc Tryd.prog w 0 spare held n 40 ((cs.drop 34).take (Tryd.prog.cellsOf 40)) = some y2 := hf 2 _ rfl
    obtain ⟨a2, q2, c2⟩ := (opens_slice Tryd.underlying40 (opens_slice Tryd.underlying27 (opens_int Tryd.underlying5) (by kernel_rfl) (by decide) (elem_one (E := (eI .u8)) fun _ => rfl)) (by kernel_rfl) (by decide) (elem_one (E := (eL 1 (eI .u8))) fun _ => rfl)) h2
    rw [show Tryd.prog.cellsOf 40 = 1 by kernel_rfl] at c2
    refine ⟨⟨a0, a1, a2⟩, ⟨q0, q1, q2⟩, ?_⟩
    have c := (VCells_at (o := 0) c0 (VCells_at (o := 33) c1 (VCells_at (o := 34) c2 (VCells_end hl))))
    exact c
def Q_api_Output (x : S_api_Output) : Prop := ((Lit.int .i64 x.Value).wf = true) ∧ (∀ z0 ∈ x.Script, (Lit.int .u8 z0).wf = true)
set_option maxRecDepth 100000 in
theorem opens_api_Output : Opens Tryd.prog 29 Q_api_Output C_api_Output := by
  intro H enc w spare held fuel cs x h
  obtain ⟨xs, n, _, _, hl, hlen, hf⟩ := DataW.trod_struct Tryd.underlying29 h
  rw [show Tryd.prog.cellsOf 29 = 2 by kernel_rfl] at hl
  match xs, hlen, hf with
  | [y0, y1], _, hf =>
    have h0 : DataW.trod enc Tryd.prog w 0 spare held n 2 ((cs.drop 0).take (Tryd.prog.cellsOf 2)) = some y0 := hf 0 _ rfl
    obtain ⟨a0, q0, c0⟩ := (opens_int Tryd.underlying2) h0
    rw [show Tryd.prog.cellsOf 2 = 1 by kernel_rfl] at c0
    have h1 : DataW.trod enc Tryd.prog w 0 spare held n 27 ((cs.drop 1).take (Tryd.prog.cellsOf 27)) = some y1 := hf 1 _ rfl
    obtain ⟨a1, q1, c1⟩ := (opens_slice Tryd.underlying27 (opens_int Tryd.underlying5) (by kernel_rfl) (by decide) (elem_one (E := (eI .u8)) fun _ => rfl)) h1
    rw [show Tryd.prog.cellsOf 27 = 1 by kernel_rfl] at c1
    refine ⟨⟨a0, a1⟩, ⟨q0, q1⟩, ?_⟩
    have c := (VCells_at (o := 0) c0 (VCells_at (o := 1) c1 (VCells_end hl)))
    exact c
structure S_api_Tx where
  Version : Int
  Inputs : List S_api_Input
  Outputs : List S_api_Output
  Lock : Int
abbrev C_api_Tx (x : S_api_Tx) : List V := [(eI .u32 x.Version), (.row none 35 (x.Inputs.map E_api_Input)), (.row none 2 (x.Outputs.map E_api_Output)), (eI .u32 x.Lock)]
abbrev E_api_Tx (x : S_api_Tx) : V := .agg (C_api_Tx x)
@[simp] theorem rns_C_api_Tx {f : Nat → Nat} (l : List S_api_Tx) : V.rns f (l.flatMap C_api_Tx) = l.flatMap C_api_Tx := rns_flat (fun _ => rfl) l
@[simp] theorem rns_K_api_Tx {f : Nat → Nat} (x : S_api_Tx) : V.rns f (C_api_Tx x) = C_api_Tx x := rfl
def Q_api_Tx (x : S_api_Tx) : Prop := ((Lit.int .u32 x.Version).wf = true) ∧ (∀ z0 ∈ x.Inputs, Q_api_Input z0) ∧ (∀ z0 ∈ x.Outputs, Q_api_Output z0) ∧ ((Lit.int .u32 x.Lock).wf = true)
set_option maxRecDepth 100000 in
theorem opens_api_Tx : Opens Tryd.prog 26 Q_api_Tx C_api_Tx := by
  intro H enc w spare held fuel cs x h
  obtain ⟨xs, n, _, _, hl, hlen, hf⟩ := DataW.trod_struct Tryd.underlying26 h
  rw [show Tryd.prog.cellsOf 26 = 4 by kernel_rfl] at hl
  match xs, hlen, hf with
  | [y0, y1, y2, y3], _, hf =>
    have h0 : DataW.trod enc Tryd.prog w 0 spare held n 22 ((cs.drop 0).take (Tryd.prog.cellsOf 22)) = some y0 := hf 0 _ rfl
    obtain ⟨a0, q0, c0⟩ := (opens_int Tryd.underlying22) h0
    rw [show Tryd.prog.cellsOf 22 = 1 by kernel_rfl] at c0
    have h1 : DataW.trod enc Tryd.prog w 0 spare held n 23 ((cs.drop 1).take (Tryd.prog.cellsOf 23)) = some y1 := hf 1 _ rfl
    obtain ⟨a1, q1, c1⟩ := (opens_slice Tryd.underlying23 opens_api_Input (by kernel_rfl) (by decide) (elem_agg (K := 35) (C := C_api_Input) (fun _ => rfl) (fun _ => rfl))) h1
    rw [show Tryd.prog.cellsOf 23 = 1 by kernel_rfl] at c1
    have h2 : DataW.trod enc Tryd.prog w 0 spare held n 24 ((cs.drop 2).take (Tryd.prog.cellsOf 24)) = some y2 := hf 2 _ rfl
    obtain ⟨a2, q2, c2⟩ := (opens_slice Tryd.underlying24 opens_api_Output (by kernel_rfl) (by decide) (elem_agg (K := 2) (C := C_api_Output) (fun _ => rfl) (fun _ => rfl))) h2
    rw [show Tryd.prog.cellsOf 24 = 1 by kernel_rfl] at c2
    have h3 : DataW.trod enc Tryd.prog w 0 spare held n 22 ((cs.drop 3).take (Tryd.prog.cellsOf 22)) = some y3 := hf 3 _ rfl
    obtain ⟨a3, q3, c3⟩ := (opens_int Tryd.underlying22) h3
    rw [show Tryd.prog.cellsOf 22 = 1 by kernel_rfl] at c3
    refine ⟨⟨a0, a1, a2, a3⟩, ⟨q0, q1, q2, q3⟩, ?_⟩
    have c := (VCells_at (o := 0) c0 (VCells_at (o := 1) c1 (VCells_at (o := 2) c2 (VCells_at (o := 3) c3 (VCells_end hl)))))
    exact c
end Go.Proofs.YtnoofjkaeidagaaDoor
set_option linter.unusedSimpArgs false
set_option linter.unusedVariables false
namespace Go.Vm
open Go
theorem lim_big' : 10000000 ≤ lim := by decide
def iN (l : List Nat) : List Int := l.map fun (x : Nat) => (x : Int)
theorem iN_len (l : List Nat) : (iN l).length = l.length := by simp [iN]
theorem iN_idx (l : List Nat) {j : Nat} (h : j < l.length) : idx (iN l) (j : Int) = some ((l[j] : Nat) : Int) := by
  rw [idx_lt _ (by rw [iN_len]; exact h)]; simp [iN]
theorem iN_app (l m : List Nat) : iN l ++ iN m = iN (l ++ m) := by simp [iN]
theorem iN_take (l : List Nat) (k : Nat) : (iN l).take k = iN (l.take k) := by simp [iN, List.map_take]
theorem iN_drop (l : List Nat) (k : Nat) : (iN l).drop k = iN (l.drop k) := by simp [iN, List.map_drop]
theorem iN_byt {l : List Nat} (h : ∀ x ∈ l, x < 256) : Byt (iN l) := by
  intro x hx
  simp only [iN, List.mem_map] at hx
  obtain ⟨y, hy, rfl⟩ := hx
  have := h y hy
  omega
theorem byt_iN {d : List Int} (h : Byt d) : iN (d.map Int.toNat) = d ∧ ∀ x ∈ d.map Int.toNat, x < 256 := by
  constructor
  · simp only [iN, List.map_map]
    conv => rhs; rw [← List.map_id d]
    refine List.map_congr_left fun x hx => ?_
    have := h x hx
    simp only [Function.comp, id]; omega
  · intro x hx
    simp only [List.mem_map] at hx
    obtain ⟨y, hy, rfl⟩ := hx
    have := h y hy
    omega
theorem byt_nat {d : List Int} (h : Byt d) : ∃ l : List Nat, d = iN l ∧ ∀ x ∈ l, x < 256 := ⟨_, (byt_iN h).1.symm, (byt_iN h).2⟩
theorem i1 {j : Nat} (hj : j ≤ 100000) : IntKind.i64.wrap ((j : Int) + 1) = ((j + 1 : Nat) : Int) := by rw [w64 (by omega) (by omega)]; simp
theorem dT {j n : Nat} (h : j < n) : decide ((j : Int) < (n : Int)) = true := by simpa using h
theorem dF {j n : Nat} (h : ¬ j < n) : decide ((j : Int) < (n : Int)) = false := by simp; omega
theorem app1 {l : List Nat} {x : Nat} (h : l.length ≤ 100000) : app 1 (iN l) [(x : Int)] = some (iN (l ++ [x])) := by
  have := lim_big'
  rw [app_ok (by rw [iN_len]; simp; omega)]
  simp [iN]
theorem app2 {l m : List Int} (h : l.length + m.length ≤ 1000000) : app 1 l m = some (l ++ m) := by
  have := lim_big'
  exact app_ok (by omega)
end Go.Vm
set_option linter.unusedSimpArgs false
set_option linter.unusedVariables false
namespace Go.Vm
open Go
theorem lim_big2 : 100000000 ≤ lim := by decide
theorem appB {l m : List Int} (h : l.length + m.length ≤ 100000000) : app 1 l m = some (l ++ m) := by
  have := lim_big2
  exact app_ok (by omega)
theorem loop_flat {α : Type} {f : Nat → Int → List Int → Option (List Int)} {xs : List α} {g : α → List Int} {B : Nat} (hn : xs.length ≤ 100000)
    (hs : ∀ m j acc (hj : j < xs.length), acc.length + (g xs[j]).length ≤ B → f (m + 1) (j : Int) acc = f m ((j + 1 : Nat) : Int) (acc ++ g xs[j])) (he : ∀ m j acc, xs.length ≤ j → f (m + 1) (j : Int) acc = some acc) :
    ∀ (m j : Nat) (acc : List Int), xs.length - j < m → j ≤ xs.length → acc.length + ((xs.drop j).flatMap g).length ≤ B → f m (j : Int) acc = some (acc ++ (xs.drop j).flatMap g)
  | 0, j, acc, hm, _, _ => by omega
  | m + 1, j, acc, hm, hj, hB => by
    by_cases h : j < xs.length
    · rw [List.drop_eq_getElem_cons h, List.flatMap_cons, List.length_append] at hB
      rw [hs m j acc h (by omega), loop_flat hn hs he m (j + 1) _ (by omega) (by omega) (by rw [List.length_append]; omega), List.drop_eq_getElem_cons h, List.flatMap_cons, List.append_assoc]
    · rw [he m j acc (by omega), List.drop_eq_nil_of_le (by omega)]; simp
theorem loop_all {α R : Type} {f : Nat → Int → Option (LR Unit R)} {xs : List α} {p : α → Bool} {r : R}
    (hs : ∀ m j (hj : j < xs.length), f (m + 1) (j : Int) = if p xs[j] = true then f m ((j + 1 : Nat) : Int) else some (.ret r)) (he : ∀ m j, xs.length ≤ j → f (m + 1) (j : Int) = some (.brk ())) :
    ∀ (m j : Nat), xs.length - j < m → j ≤ xs.length → f m (j : Int) = some (if (xs.drop j).all p = true then .brk () else .ret r)
  | 0, j, hm, _ => by omega
  | m + 1, j, hm, hj => by
    by_cases h : j < xs.length
    · rw [hs m j h, loop_all hs he m (j + 1) (by omega) (by omega), List.drop_eq_getElem_cons h, List.all_cons]
      cases p xs[j] <;> simp
    · rw [he m j (by omega), List.drop_eq_nil_of_le (by omega)]; simp
theorem loop_allI {R : Type} {f : Nat → Int → Option (LR Unit R)} {n : Nat} {p : Nat → Bool} {r : R}
    (hs : ∀ m j, j < n → f (m + 1) (j : Int) = if p j = true then f m ((j + 1 : Nat) : Int) else some (.ret r)) (he : ∀ m j, n ≤ j → f (m + 1) (j : Int) = some (.brk ())) :
    ∀ (m j : Nat), n - j < m → j ≤ n → f m (j : Int) = some (if (List.range' j (n - j)).all p = true then .brk () else .ret r)
  | 0, j, hm, _ => by omega
  | m + 1, j, hm, hj => by
    by_cases h : j < n
    · rw [hs m j h, loop_allI hs he m (j + 1) (by omega) (by omega), show n - j = (n - (j + 1)) + 1 by omega, List.range'_succ, List.all_cons]
      cases p j
      · rfl
      · simp only [Bool.true_and, if_true]
    · rw [he m j (by omega), show n - j = 0 by omega]; simp
theorem loop_fold {α σ : Type} {f : Nat → σ → Int → Option σ} {xs : List α} {g : σ → α → σ}
    (hs : ∀ m s j (hj : j < xs.length), f (m + 1) s (j : Int) = f m (g s xs[j]) ((j + 1 : Nat) : Int)) (he : ∀ m s j, xs.length ≤ j → f (m + 1) s (j : Int) = some s) :
    ∀ (m : Nat) (s : σ) (j : Nat), xs.length - j < m → j ≤ xs.length → f m s (j : Int) = some ((xs.drop j).foldl g s)
  | 0, s, j, hm, _ => by omega
  | m + 1, s, j, hm, hj => by
    by_cases h : j < xs.length
    · rw [hs m s j h, loop_fold hs he m _ (j + 1) (by omega) (by omega), List.drop_eq_getElem_cons h, List.foldl_cons]
    · rw [he m s j (by omega), List.drop_eq_nil_of_le (by omega)]; rfl
end Go.Vm
set_option linter.unusedSimpArgs false
set_option linter.unusedVariables false
namespace Go.Proofs.YtnoofjkaeidagaaDoor
open Go Go.Vm
def shV (v : Int) (i : Nat) : Int := IntKind.u8.wrap (v.fdiv (2 ^ (min (8 * i) 64)))
def lowB (w : Nat) (v : Int) : List Int := (List.range w).map (shV v)
theorem lowB_len (w : Nat) (v : Int) : (lowB w v).length = w := by simp [lowB]
theorem shr8 (v : Int) (i : Nat) (hi : i ≤ 100) : ∃ y, shr .u64 v (IntKind.i64.wrap (8 * (i : Int))) = some y ∧ IntKind.u8.wrap y = shV v i := by
  refine ⟨_, ?_, rfl⟩
  rw [w64 (by omega) (by omega)]
  unfold shr
  rw [if_neg (by omega)]
  congr 3
theorem set_step (w : Nat) (v : Int) (j : Nat) (hj : j < w) : (((List.range j).map (shV v)) ++ List.replicate (w - j) 0).set j (shV v j) = ((List.range (j + 1)).map (shV v)) ++ List.replicate (w - (j + 1)) 0 := by
  rw [List.set_append_right _ _ (by simp), show w - j = (w - (j + 1)) + 1 by omega, List.replicate_succ, List.range_succ, List.map_append, List.append_assoc]
  simp
theorem low_loop {f : Nat → Int → List Int → Option (List Int)} (w : Nat) (v : Int) (hw : w ≤ 100)
    (hs : ∀ m j acc, j < w → acc.length = w → f (m + 1) (j : Int) acc = f m ((j + 1 : Nat) : Int) (acc.set j (shV v j))) (he : ∀ m acc, acc.length = w → f (m + 1) (w : Int) acc = some acc) :
    ∀ (m j : Nat), w - j < m → j ≤ w → f m (j : Int) (((List.range j).map (shV v)) ++ List.replicate (w - j) 0) = some (lowB w v)
  | 0, j, hm, _ => by omega
  | m + 1, j, hm, hj => by
    by_cases h : j < w
    · rw [hs m j _ h (by simp; omega), set_step w v j h]
      exact low_loop w v hw hs he m (j + 1) (by omega) (by omega)
    · have : j = w := by omega
      subst this
      rw [he m _ (by simp), Nat.sub_self]
      simp [lowB]
theorem lowest_eq (N : Nat) (hN : 70000 ≤ N) (v : Int) (w : Nat) (hw : w ≤ 100) : codec_lowest N v (w : Int) = some (lowB w v) := by
  have hmk : mks 1 (0 : Int) (w : Int) = some (List.replicate w 0) := mks_ok (by have := lim_big2; omega)
  have := low_loop (f := codec_lowest_L2 N v (w : Int)) w v hw (fun m j acc hj hl => by
      obtain ⟨y, h1, h2⟩ := shr8 v j (by omega)
      rw [codec_lowest_L2, dT hj, if_pos rfl, h1, idx_lt acc (by omega : j < acc.length)]
      simp only [Option.bind_some, Int.toNat_natCast, h2, i1 (show j ≤ 100000 by omega)])
    (fun m acc hl => by rw [codec_lowest_L2, dF (Nat.lt_irrefl w)]; rfl) N 0 (by omega) (by omega)
  simp only [codec_lowest, hmk, Option.bind_some, codec_lowest_J1]
  simp only [List.range_zero, List.map_nil, List.nil_append, Nat.sub_zero] at this
  rw [show ((0 : Nat) : Int) = 0 from rfl] at this
  rw [this]; rfl
theorem little_eq (N : Nat) (hN : 70000 ≤ N) (v : Int) (w : Nat) (hw : w ≤ 100) : ref01_little N v (w : Int) = some (lowB w v) := by
  have hmk : mks 1 (0 : Int) (w : Int) = some (List.replicate w 0) := mks_ok (by have := lim_big2; omega)
  have hl0 : (List.replicate w (0 : Int)).length = w := by simp
  have := low_loop (f := ref01_little_L2 N v (List.replicate w 0)) w v hw (fun m j acc hj hl => by
      obtain ⟨y, h1, h2⟩ := shr8 v j (by omega)
      rw [ref01_little_L2, hl0, dT hj, if_pos rfl, h1, idx_lt acc (by omega : j < acc.length)]
      simp only [Option.bind_some, Int.toNat_natCast, h2, i1 (show j ≤ 100000 by omega)])
    (fun m acc hl => by rw [ref01_little_L2, hl0, dF (Nat.lt_irrefl w)]; rfl) N 0 (by omega) (by omega)
  simp only [ref01_little, hmk, Option.bind_some, ref01_little_J1]
  simp only [List.range_zero, List.map_nil, List.nil_append, Nat.sub_zero] at this
  rw [show ((0 : Nat) : Int) = 0 from rfl] at this
  rw [this]; rfl
theorem extend_eq (N : Nat) (b v : List Int) (h : b.length + v.length ≤ 50000000) : codec_extend N b v = some (b ++ v) := by
  have hmk : mks 1 (0 : Int) (IntKind.i64.wrap ((b.length : Int) + (v.length : Int))) = some (List.replicate (b.length + v.length) 0) := by
    rw [w64 (by omega) (by omega), show (b.length : Int) + (v.length : Int) = ((b.length + v.length : Nat) : Int) by omega]
    exact mks_ok (by have := lim_big2; omega)
  simp only [codec_extend, hmk, Option.bind_some, List.take_zero]
  rw [appB (by simp; omega)]
  simp only [Option.bind_some, List.nil_append]
  rw [appB (by omega)]; rfl
theorem joined_eq (N : Nat) (b v : List Int) (h : b.length + v.length ≤ 50000000) : ref01_joined N b v = some (b ++ v) := by
  have hmk : mks 1 (0 : Int) (IntKind.i64.wrap ((b.length : Int) + (v.length : Int))) = some (List.replicate (b.length + v.length) 0) := by
    rw [w64 (by omega) (by omega), show (b.length : Int) + (v.length : Int) = ((b.length + v.length : Nat) : Int) by omega]
    exact mks_ok (by have := lim_big2; omega)
  simp only [ref01_joined, hmk, Option.bind_some, List.take_zero]
  rw [appB (by simp; omega)]
  simp only [Option.bind_some, List.nil_append]
  rw [appB (by omega)]; rfl
def u32B (v : Int) : List Int := lowB 4 (IntKind.u64.wrap v)
def u64B (v : Int) : List Int := lowB 8 v
theorem u32B_len (v : Int) : (u32B v).length = 4 := lowB_len _ _
theorem u64B_len (v : Int) : (u64B v).length = 8 := lowB_len _ _
section
variable (N : Nat) (hN : 70000 ≤ N)
include hN
theorem aU32 (b : List Int) (v : Int) (h : b.length ≤ 40000000) : codec_AppendU32 N b v = some (b ++ u32B v) := by
  simp only [codec_AppendU32, show (4 : Int) = ((4 : Nat) : Int) from rfl, lowest_eq N hN _ 4 (by omega), Option.bind_some]
  rw [extend_eq N _ _ (by rw [lowB_len]; omega)]; rfl
theorem rU32 (b : List Int) (v : Int) (h : b.length ≤ 40000000) : ref01_AppendU32 N b v = some (b ++ u32B v) := by
  simp only [ref01_AppendU32, show (4 : Int) = ((4 : Nat) : Int) from rfl, little_eq N hN _ 4 (by omega), Option.bind_some]
  rw [joined_eq N _ _ (by rw [lowB_len]; omega)]; rfl
theorem aU64 (b : List Int) (v : Int) (h : b.length ≤ 40000000) : codec_AppendU64 N b v = some (b ++ u64B v) := by
  simp only [codec_AppendU64, show (8 : Int) = ((8 : Nat) : Int) from rfl, lowest_eq N hN _ 8 (by omega), Option.bind_some]
  rw [extend_eq N _ _ (by rw [lowB_len]; omega)]; rfl
theorem rU64 (b : List Int) (v : Int) (h : b.length ≤ 40000000) : ref01_AppendU64 N b v = some (b ++ u64B v) := by
  simp only [ref01_AppendU64, show (8 : Int) = ((8 : Nat) : Int) from rfl, little_eq N hN _ 8 (by omega), Option.bind_some]
  rw [joined_eq N _ _ (by rw [lowB_len]; omega)]; rfl
end
theorem wu (k : IntKind) (n : Nat) (hk : k.signed = false) (h : (n : Int) < 2 ^ k.bits) : k.wrap (n : Int) = n := by
  rw [wrap_u hk]; exact Int.emod_eq_of_lt (by omega) h
def szB (n : Nat) : List Int := if n < 253 then lowB 1 n else if n < 65536 then 253 :: lowB 2 n else 254 :: lowB 4 n
theorem szB_len (n : Nat) : 1 ≤ (szB n).length ∧ (szB n).length ≤ 5 := by
  unfold szB
  split
  · simp [lowB_len]
  · split <;> simp [lowB_len]
theorem low1 (n : Nat) (h : n < 256) : lowB 1 (n : Int) = [IntKind.u8.wrap (n : Int)] := by
  simp [lowB, shV, List.range_succ]
section
variable (N : Nat) (hN : 70000 ≤ N)
include hN
theorem aSize (b : List Int) (n : Nat) (hn : n ≤ 1000000) (h : b.length ≤ 30000000) : codec_AppendSize N b (IntKind.u64.wrap (n : Int)) = some (b ++ szB n) := by
  rw [wu .u64 n rfl (by simp [IntKind.bits]; omega)]
  unfold codec_AppendSize szB
  by_cases h1 : n < 253
  · have e1 : decide ((n : Int) < 253) = true := decide_eq_true (by omega)
    rw [e1, if_pos rfl, if_pos h1, extend_eq N _ _ (by simp; omega), low1 n (by omega)]; rfl
  · have e1 : decide ((n : Int) < 253) = false := decide_eq_false (by omega)
    rw [e1, if_neg h1]
    by_cases h2 : n < 65536
    · have e2 : decide ((n : Int) < 65536) = true := decide_eq_true (by omega)
      simp only [e2, Bool.false_eq_true, if_false, if_true, if_pos h2]
      rw [extend_eq N _ _ (by simp; omega)]
      simp only [Option.bind_some, codec_AppendU16, show (2 : Int) = ((2 : Nat) : Int) from rfl, lowest_eq N hN _ 2 (by omega)]
      rw [wu .u16 n rfl (by simp [IntKind.bits]; omega), wu .u64 n rfl (by simp [IntKind.bits]; omega), extend_eq N _ _ (by simp [lowB_len]; omega)]
      simp
    · have e2 : decide ((n : Int) < 65536) = false := decide_eq_false (by omega)
      have e3 : decide ((n : Int) < 4294967296) = true := decide_eq_true (by omega)
      simp only [e2, e3, Bool.false_eq_true, if_false, if_true, if_neg h2]
      rw [extend_eq N _ _ (by simp; omega)]
      simp only [Option.bind_some]
      rw [aU32 N hN (b ++ [254]) _ (by simp; omega), wu .u32 n rfl (by simp [IntKind.bits]; omega)]
      simp only [u32B, wu .u64 n rfl (show (n : Int) < 2 ^ IntKind.u64.bits by simp [IntKind.bits]; omega), Option.bind_some, List.append_assoc]
      rfl
theorem rSize (b : List Int) (n : Nat) (hn : n ≤ 1000000) (h : b.length ≤ 30000000) : ref01_AppendSize N b (IntKind.u64.wrap (n : Int)) = some (b ++ szB n) := by
  rw [wu .u64 n rfl (by simp [IntKind.bits]; omega)]
  unfold ref01_AppendSize szB
  by_cases h1 : n < 253
  · have e1 : decide ((n : Int) < 253) = true := decide_eq_true (by omega)
    rw [e1, if_pos rfl, if_pos h1]
    simp only [show (1 : Int) = ((1 : Nat) : Int) from rfl, little_eq N hN _ 1 (by omega), Option.bind_some]
    rw [joined_eq N _ _ (by rw [lowB_len]; omega)]; rfl
  · have e1 : decide ((n : Int) < 253) = false := decide_eq_false (by omega)
    rw [e1, if_neg h1]
    by_cases h2 : n < 65536
    · have e2 : decide ((n : Int) < 65536) = true := decide_eq_true (by omega)
      simp only [e2, Bool.false_eq_true, if_false, if_true, if_pos h2, show (2 : Int) = ((2 : Nat) : Int) from rfl, little_eq N hN _ 2 (by omega), Option.bind_some]
      rw [joined_eq N _ _ (by simp [lowB_len])]
      simp only [Option.bind_some]
      rw [joined_eq N _ _ (by simp [lowB_len]; omega)]; rfl
    · have e2 : decide ((n : Int) < 65536) = false := decide_eq_false (by omega)
      have e3 : decide ((n : Int) < 4294967296) = true := decide_eq_true (by omega)
      simp only [e2, e3, Bool.false_eq_true, if_false, if_true, if_neg h2, show (4 : Int) = ((4 : Nat) : Int) from rfl, little_eq N hN _ 4 (by omega), Option.bind_some]
      rw [joined_eq N _ _ (by simp [lowB_len])]
      simp only [Option.bind_some]
      rw [joined_eq N _ _ (by simp [lowB_len]; omega)]; rfl
theorem aBytes (b s : List Int) (hs : s.length ≤ 1000000) (h : b.length ≤ 30000000) : codec_AppendBytes N b s = some (b ++ (szB s.length ++ s)) := by
  have := szB_len s.length
  simp only [codec_AppendBytes, aSize N hN b _ hs (by omega), Option.bind_some]
  rw [extend_eq N _ _ (by rw [List.length_append]; omega), Option.bind_some, List.append_assoc]
theorem rBytes (b s : List Int) (hs : s.length ≤ 1000000) (h : b.length ≤ 30000000) : ref01_AppendBytes N b s = some (b ++ (szB s.length ++ s)) := by
  have := szB_len s.length
  simp only [ref01_AppendBytes, rSize N hN b _ hs (by omega), Option.bind_some]
  rw [joined_eq N _ _ (by rw [List.length_append]; omega), Option.bind_some, List.append_assoc]
theorem aPoint (t : List Int) (i : Int) (ht : t.length = 32) : tx_Point N t i = some (t ++ u32B i) := by
  simp only [tx_Point, codec_AppendHash, arr, if_pos ht, Option.bind_some]
  rw [extend_eq N _ _ (by simp; omega)]
  simp only [Option.bind_some, List.nil_append]
  rw [aU32 N hN _ _ (by omega)]; rfl
theorem rPoint (t : List Int) (i : Int) (ht : t.length = 32) : ref09_Point N t i = some (t ++ u32B i) := by
  simp only [ref09_Point, ref01_AppendHash, arr, if_pos ht, Option.bind_some]
  rw [joined_eq N _ _ (by simp; omega)]
  simp only [Option.bind_some, List.nil_append]
  rw [rU32 N hN _ _ (by omega)]; rfl
def outB (o : S_api_Output) : List Int := u64B (IntKind.u64.wrap o.Value) ++ (szB o.Script.length ++ o.Script)
theorem rOut (o : S_api_Output) (h : o.Script.length ≤ 600) : ref09_Out N o.Value o.Script = some (outB o) := by
  simp only [ref09_Out, rU64 N hN _ _ (show ([] : List Int).length ≤ 40000000 by simp), Option.bind_some, List.nil_append]
  rw [rBytes N hN _ _ (by omega) (by rw [u64B_len]; omega)]; rfl
end
end Go.Proofs.YtnoofjkaeidagaaDoor
