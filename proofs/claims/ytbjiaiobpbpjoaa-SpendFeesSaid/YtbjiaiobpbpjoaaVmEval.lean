import Derived.Test.YtbjiaiobpbpjoaaVmCall
set_option linter.unusedSimpArgs false
set_option linter.unusedVariables false
namespace Go.Vm
open Go

/-- The operations of a list, one behind the other, end in a state for which K holds. -/
def OpsTo (P : Program) (O : Orc) (ops : Array Oper) (l : List Oper) (s : List V) (h : Hp) (K : List V → Hp → Prop) : Prop := ∃ p, absOps P O ops l s h = some p ∧ K p.1 p.2

/-- An outcome and what follows. -/
def Then {α : Type} (o : Option α) (K : α → Prop) : Prop := ∃ p, o = some p ∧ K p

section
variable {P : Program} {O : Orc} {ops : Array Oper} {s : List V} {h : Hp} {K : List V → Hp → Prop}
theorem OpsTo.nil (hk : K s h) : OpsTo P O ops [] s h K := ⟨(s, h), rfl, hk⟩
theorem OpsTo.cons {o : Oper} {l : List Oper} (hh : Then (stepVal P O ops o s h) (fun p => OpsTo P O ops l (putV s o.dst p.1) p.2 K)) : OpsTo P O ops (o :: l) s h K := by
  obtain ⟨⟨r, h1⟩, h2, p, h3, h4⟩ := hh
  refine ⟨p, ?_, h4⟩
  simp only [absOps, absStep_eq, h2, Option.map_some, Option.bind_some]
  exact h3
theorem AW.rg {Q : Ex → List V → Hp → Prop} (E : Env P) {id : Nat} {l : List Oper} {draw : Bool} (hd : draw = true → drawOk E.F l.toArray = true) (hr : OpsTo P E.O l.toArray l s h (Q .normal)) : AW P (.region id l.toArray draw) Q s h := by
  obtain ⟨⟨s', h'⟩, h1, h2⟩ := hr
  exact AW.region E hd (by simpa using h1) h2
end

theorem AW.seq_k {P : Program} {Q : Ex → List V → Hp → Prop} {s : List V} {h : Hp} {c d : Code} (hh : ∀ K : List V → Hp → Prop, (∀ s h, AW P d Q s h → K s h) → AW P c (Ex.then K Q) s h) : AW P (.seq c d) Q s h :=
  AW.seq (hh _ fun _ _ hk => hk)
@[simp] theorem Ex.then_normal (K : List V → Hp → Prop) (Q : Ex → List V → Hp → Prop) : Ex.then K Q .normal = K := rfl
@[simp] theorem Ex.then_ret (K : List V → Hp → Prop) (Q : Ex → List V → Hp → Prop) : Ex.then K Q .ret = Q .ret := rfl
@[simp] theorem Ex.then_exit (K : List V → Hp → Prop) (Q : Ex → List V → Hp → Prop) (id : Nat) : Ex.then K Q (.exit id) = Q (.exit id) := rfl
@[simp] theorem Ex.inBlock_normal (Q : Ex → List V → Hp → Prop) (id : Nat) : Ex.inBlock id Q .normal = Q .normal := rfl
@[simp] theorem Ex.inBlock_ret (Q : Ex → List V → Hp → Prop) (id : Nat) : Ex.inBlock id Q .ret = Q .ret := rfl
theorem Ex.inBlock_same (Q : Ex → List V → Hp → Prop) (id : Nat) : Ex.inBlock id Q (.exit id) = Q .normal := by funext s h; simp [Ex.inBlock]
theorem Ex.inBlock_other (Q : Ex → List V → Hp → Prop) (id i : Nat) (hi : (i == id) = false) : Ex.inBlock id Q (.exit i) = Q (.exit i) := by funext s h; simp at hi; simp [Ex.inBlock, hi]
theorem Then.mk {α : Type} {o : Option α} {K : α → Prop} {p : α} (h1 : o = some p) (h2 : K p) : Then o K := ⟨p, h1, h2⟩
theorem Then.out {α : Type} {o : Option α} {K : α → Prop} (h : Then o K) : ∃ p, o = some p ∧ K p := h
@[simp] theorem Then_some {α : Type} (x : α) (K : α → Prop) : Then (some x) K ↔ K x := ⟨fun ⟨p, hp, hk⟩ => by injection hp with hp; subst hp; exact hk, fun hk => ⟨x, rfl, hk⟩⟩
@[simp] theorem Then_map {α β : Type} (o : Option α) (f : α → β) (K : β → Prop) : Then (o.map f) K ↔ Then o fun x => K (f x) := by
  constructor
  · rintro ⟨p, hp, hk⟩
    simp only [Option.map_eq_some_iff] at hp
    obtain ⟨x, hx, rfl⟩ := hp
    exact ⟨x, hx, hk⟩
  · rintro ⟨x, hx, hk⟩
    exact ⟨f x, by rw [hx]; rfl, hk⟩
@[simp] theorem Then_bind {α β : Type} (o : Option α) (f : α → Option β) (K : β → Prop) : Then (o.bind f) K ↔ Then o fun x => Then (f x) K := by
  constructor
  · rintro ⟨p, hp, hk⟩
    simp only [Option.bind_eq_some_iff] at hp
    obtain ⟨x, hx, hf⟩ := hp
    exact ⟨x, hx, p, hf, hk⟩
  · rintro ⟨x, hx, p, hf, hk⟩
    exact ⟨p, by rw [hx]; exact hf, hk⟩
@[simp] theorem Then_ite {α : Type} (c : Prop) [Decidable c] (o : Option α) (K : α → Prop) : Then (if c then o else none) K ↔ c ∧ Then o K := by
  constructor
  · rintro ⟨p, hp, hk⟩
    split at hp
    · rename_i hc; exact ⟨hc, p, hp, hk⟩
    · cases hp
  · rintro ⟨hc, p, hp, hk⟩
    exact ⟨p, by rw [if_pos hc]; exact hp, hk⟩
@[simp] theorem Then_ite' {α : Type} (c : Prop) [Decidable c] (o : Option α) (K : α → Prop) : Then (if c then none else o) K ↔ ¬ c ∧ Then o K := by
  constructor
  · rintro ⟨p, hp, hk⟩
    split at hp
    · cases hp
    · rename_i hc; exact ⟨hc, p, hp, hk⟩
  · rintro ⟨hc, p, hp, hk⟩
    exact ⟨p, by rw [if_neg hc]; exact hp, hk⟩

/-! ### Arithmetic -/
section
variable (P : Program) (t : TypeId) (xo yo : Operand)
theorem pureV_some {s : Sem Value} {v : Value} (h : evalPure P s = some v) : pureV P s = some (ofValue v) := by simp [pureV, h]
@[simp] theorem evalPure_pure {α : Type} (a : α) : evalPure P (pure a) = some a := rfl
@[simp] theorem evalPure_pure' {α : Type} (a : α) : evalPure P (Sem.pure a) = some a := rfl

theorem guard_int (op : BinOp) (k k' : IntKind) (a b : Int) : eqGuard op t xo yo (.int k a) (.int k' b) = pure () := by cases op <;> rfl
theorem guard_bool (op : BinOp) (a b : Bool) : eqGuard op t xo yo (.bool a) (.bool b) = pure () := by cases op <;> rfl
theorem guard_string (op : BinOp) (a b : ByteArray) : eqGuard op t xo yo (.string a) (.string b) = pure () := by cases op <;> rfl

@[simp] theorem bin_add (k : IntKind) (a b : Int) : binV P .add t xo yo (.sc (.int k a)) (.sc (.int k b)) = some (.sc (.int k (k.wrap (a + b)))) := by
  simp [binV, toVal, cellVal, guard_int, binOp, Op.intArith, pureV]; rfl
@[simp] theorem bin_sub (k : IntKind) (a b : Int) : binV P .sub t xo yo (.sc (.int k a)) (.sc (.int k b)) = some (.sc (.int k (k.wrap (a - b)))) := by
  simp [binV, toVal, cellVal, guard_int, binOp, Op.intArith, pureV]; rfl
@[simp] theorem bin_mul (k : IntKind) (a b : Int) : binV P .mul t xo yo (.sc (.int k a)) (.sc (.int k b)) = some (.sc (.int k (k.wrap (a * b)))) := by
  simp [binV, toVal, cellVal, guard_int, binOp, Op.intArith, pureV]; rfl
@[simp] theorem bin_and (k : IntKind) (a b : Int) : binV P .and t xo yo (.sc (.int k a)) (.sc (.int k b)) = some (.sc (.int k (bits .and k a b))) := by
  simp [binV, toVal, cellVal, guard_int, binOp, Op.intBits, pureV]; rfl
@[simp] theorem bin_or (k : IntKind) (a b : Int) : binV P .or t xo yo (.sc (.int k a)) (.sc (.int k b)) = some (.sc (.int k (bits .or k a b))) := by
  simp [binV, toVal, cellVal, guard_int, binOp, Op.intBits, pureV]; rfl
@[simp] theorem bin_xor (k : IntKind) (a b : Int) : binV P .xor t xo yo (.sc (.int k a)) (.sc (.int k b)) = some (.sc (.int k (bits .xor k a b))) := by
  simp [binV, toVal, cellVal, guard_int, binOp, Op.intBits, pureV]; rfl
@[simp] theorem bin_eql (k : IntKind) (a b : Int) : binV P .eql t xo yo (.sc (.int k a)) (.sc (.int k b)) = some (.sc (.bool (a == b))) := by
  simp [binV, toVal, cellVal, guard_int, binOp, Op.intCmp, pureV]; rfl
@[simp] theorem bin_neq (k : IntKind) (a b : Int) : binV P .neq t xo yo (.sc (.int k a)) (.sc (.int k b)) = some (.sc (.bool (a != b))) := by
  simp [binV, toVal, cellVal, guard_int, binOp, Op.intCmp, pureV]; rfl
@[simp] theorem bin_lss (k : IntKind) (a b : Int) : binV P .lss t xo yo (.sc (.int k a)) (.sc (.int k b)) = some (.sc (.bool (decide (a < b)))) := by
  simp [binV, toVal, cellVal, guard_int, binOp, Op.intCmp, pureV]; rfl
@[simp] theorem bin_leq (k : IntKind) (a b : Int) : binV P .leq t xo yo (.sc (.int k a)) (.sc (.int k b)) = some (.sc (.bool (decide (a ≤ b)))) := by
  simp [binV, toVal, cellVal, guard_int, binOp, Op.intCmp, pureV]; rfl
@[simp] theorem bin_gtr (k : IntKind) (a b : Int) : binV P .gtr t xo yo (.sc (.int k a)) (.sc (.int k b)) = some (.sc (.bool (decide (b < a)))) := by
  simp [binV, toVal, cellVal, guard_int, binOp, Op.intCmp, pureV]; rfl
@[simp] theorem bin_geq (k : IntKind) (a b : Int) : binV P .geq t xo yo (.sc (.int k a)) (.sc (.int k b)) = some (.sc (.bool (decide (b ≤ a)))) := by
  simp [binV, toVal, cellVal, guard_int, binOp, Op.intCmp, pureV]; rfl

@[simp] theorem bin_quo (k : IntKind) (a b : Int) : binV P .quo t xo yo (.sc (.int k a)) (.sc (.int k b)) = if b = 0 then none else some (.sc (.int k (k.wrap (a.tdiv b)))) := by
  simp only [binV, toVal, cellVal, guard_int, binOp, Op.intDiv, pureV, ne_eq, not_true, if_false]
  split <;> rfl
@[simp] theorem bin_rem (k : IntKind) (a b : Int) : binV P .rem t xo yo (.sc (.int k a)) (.sc (.int k b)) = if b = 0 then none else some (.sc (.int k (a.tmod b))) := by
  simp only [binV, toVal, cellVal, guard_int, binOp, Op.intDiv, pureV, ne_eq, not_true, if_false]
  split <;> rfl
@[simp] theorem bin_shl (k k' : IntKind) (a b : Int) : binV P .shl t xo yo (.sc (.int k a)) (.sc (.int k' b)) = if b < 0 then none else some (.sc (.int k (k.wrap (a * 2 ^ (min b.toNat k.bits))))) := by
  simp only [binV, toVal, cellVal, guard_int, binOp, Op.shift, pureV]
  split <;> rfl
@[simp] theorem bin_shr (k k' : IntKind) (a b : Int) : binV P .shr t xo yo (.sc (.int k a)) (.sc (.int k' b)) = if b < 0 then none else some (.sc (.int k (a.fdiv (2 ^ (min b.toNat k.bits))))) := by
  simp only [binV, toVal, cellVal, guard_int, binOp, Op.shift, pureV]
  split <;> rfl
@[simp] theorem un_not (b : Bool) : unV P .not (.sc (.bool b)) = some (.sc (.bool (!b))) := rfl
theorem bytesStr_sc (h : Hp) (a b : TypeId) (v : Value) : bytesStrV P h a b (.sc v) = none := by
  unfold bytesStrV
  split
  · split <;> first | rfl | simp [srcV]
  · rfl
theorem conv_int {h : Hp} {a b : TypeId} {d : TI} {k k' : IntKind} {n : Int} (ha : ∃ da, tiOf P a = some da) (hb : tiOf P b = some d) (hd : d.desc = .int k) : convV P h a b (.sc (.int k' n)) = some (.sc (.int k (k.wrap n))) := by
  obtain ⟨da, ha⟩ := ha
  have h1 := (tiOf_spec ha).1
  have h2 := (tiOf_spec hb).1
  rw [hd] at h2
  have e1 : underlying a = Sem.program fun p => match p.underlying a with | some d => pure d | none => stuck "no such type" := rfl
  have e2 : underlying b = Sem.program fun p => match p.underlying b with | some d => pure d | none => stuck "no such type" := rfl
  simp only [convV, bytesStr_sc, toVal, cellVal, pureV]
  have : evalPure P (convert a b (.int k' n)) = some (.int k (k.wrap n)) := by
    unfold convert
    rw [e1, e2]
    show evalPure P (Sem.bind (Sem.program _) _) = _
    simp only [Sem.bind, evalPure, h1]
    show evalPure P (Sem.bind (Sem.program _) _) = _
    simp only [Sem.bind, evalPure, h2]
    cases da.desc <;> rfl
  rw [this]; rfl

theorem beqTF : ((some true : Option Bool) == some false) = false := rfl
theorem beqFT : ((some false : Option Bool) == some true) = false := rfl
theorem beqTT : ((some true : Option Bool) == some true) = true := rfl
theorem beqFF : ((some false : Option Bool) == some false) = true := rfl
theorem beqN (b : Bool) : ((none : Option Bool) == some b) = false := by cases b <;> rfl
@[simp] theorem bits_u8 : IntKind.u8.bits = 8 := rfl
@[simp] theorem bits_u16 : IntKind.u16.bits = 16 := rfl
@[simp] theorem bits_u32 : IntKind.u32.bits = 32 := rfl
@[simp] theorem bits_u64 : IntKind.u64.bits = 64 := rfl
@[simp] theorem bits_i64 : IntKind.i64.bits = 64 := rfl
theorem shift_min {b : Int} {n : Nat} (h : b ≤ n) : min b.toNat n = b.toNat := by omega
/-! ### Numbers that fit -/
theorem w64 {a : Int} (h1 : -9223372036854775808 ≤ a) (h2 : a ≤ 9223372036854775807) : IntKind.i64.wrap a = a := by rw [IntKind.wrap_i64]; omega
theorem wu64 {a : Int} (h1 : 0 ≤ a) (h2 : a ≤ 18446744073709551615) : IntKind.u64.wrap a = a := by rw [IntKind.wrap_u64]; omega
theorem wu8 {a : Int} (h1 : 0 ≤ a) (h2 : a ≤ 255) : IntKind.u8.wrap a = a := by rw [IntKind.wrap_u8]; omega
theorem wu32 {a : Int} (h1 : 0 ≤ a) (h2 : a ≤ 4294967295) : IntKind.u32.wrap a = a := by rw [IntKind.wrap_u32]; omega
theorem tdiv_nn {a b : Int} (h1 : 0 ≤ a) : a.tdiv b = a / b := Int.tdiv_eq_ediv_of_nonneg h1
theorem tmod_nn {a b : Int} (h1 : 0 ≤ a) : a.tmod b = a % b := Int.tmod_eq_emod_of_nonneg h1
end
attribute [irreducible] OpsTo Then
end Go.Vm
