/- Texts of ours, joined: VmEval, VmExec, VmLift, VmOne, VmFrame, VmSym, VmGhost, VmRule, VmCtr, VmBrw, Plain0, Ty, Lift, Lift2, Open, Laid, VmDrawG, VmFrz, VmStr, VmArr, VmExt, VmStl, VmEq, VmAis, VmShort. -/
import Derived.Test.YtnllpckhipmpgaaGreatDoorQScriptRuns1
import Derived.ProofKit
import Derived.OpenShut
import Derived.ShutString
import Derived.ChangeOld
import Derived.Lib.SmallJoins
import Derived.Test.YtnllpckhipmpgaaGreatDoorRows
import Derived.Test.YtnllpckhipmpgaaGreatDoorCards
import Derived.Test.YtnllpckhipmpgaaGreatDoorTie
import Derived.WalkKit
import Derived.LaidSub
import Derived.Deep.DeepHandedRow
import Derived.Lib.LaidTab
import Derived.Laws.IdiomStrings
import Derived.ChangeKeysEq
set_option linter.unusedSimpArgs false
set_option linter.unusedVariables false
namespace Go.Vm
open Go
def OpsTo (P : Program) (O : tD) (ops : Array Oper) (l : List Oper) (s : List V) (h : Hp) (K : List V → Hp → Prop) : Prop := ∃ p,aHp P O ops l s h = some p ∧ K p.1 p.2
def Then {α : Type} (o : Option α) (K : α → Prop) : Prop := ∃ p,o = some p ∧ K p
section
variable {P : Program} {O : tD} {ops : Array Oper} {s : List V} {h : Hp} {K : List V → Hp → Prop}
theorem OpsTo.cons {o : Oper} {l : List Oper} (hh : Then (b7 P O ops o s h) (fun p => OpsTo P O ops l (jJ s o.dst p.1) p.2 K)) : OpsTo P O ops (o :: l) s h K := by
 obtain ⟨⟨r,h1⟩,h2,p,h3,h4⟩ := hh
 refine ⟨p, ?_,h4⟩
 simp only [aHp,d6,h2,Option.map_some,Option.bind_some]
 exact h3
end
@[simp] theorem Ex.then_normal (K : List V → Hp → Prop) (Q : Ex → List V → Hp → Prop) : Ex.then K Q .normal = K := rfl
@[simp] theorem Ex.then_ret (K : List V → Hp → Prop) (Q : Ex → List V → Hp → Prop) : Ex.then K Q .ret = Q .ret := rfl
@[simp] theorem Ex.then_exit (K : List V → Hp → Prop) (Q : Ex → List V → Hp → Prop) (id : Nat) : Ex.then K Q (.exit id) = Q (.exit id) := rfl
@[simp] theorem Ex.inBlock_normal (Q : Ex → List V → Hp → Prop) (id : Nat) : Ex.inBlock id Q .normal = Q .normal := rfl
@[simp] theorem Ex.inBlock_ret (Q : Ex → List V → Hp → Prop) (id : Nat) : Ex.inBlock id Q .ret = Q .ret := rfl
theorem Then.mk {α : Type} {o : Option α} {K : α → Prop} {p : α} (h1 : o = some p) (h2 : K p) : Then o K := ⟨p,h1,h2⟩
@[simp] theorem aOt {α : Type} (x : α) (K : α → Prop) : Then (some x) K ↔ K x := ⟨fun ⟨p,hp,hk⟩ => by injection hp with hp; subst hp; exact hk,fun hk => ⟨x,rfl,hk⟩⟩
@[simp] theorem aPl {α β : Type} (o : Option α) (f : α → β) (K : β → Prop) : Then (o.map f) K ↔ Then o fun x => K (f x) := by
 constructor
 ·rintro ⟨p,hp,hk⟩
  simp only [Option.map_eq_some_iff] at hp
  obtain ⟨x,hx,rfl⟩ := hp
  exact ⟨x,hx,hk⟩
 ·rintro ⟨x,hx,hk⟩
  exact ⟨f x,by rw [hx]; rfl,hk⟩
@[simp] theorem aOr {α β : Type} (o : Option α) (f : α → Option β) (K : β → Prop) : Then (o.bind f) K ↔ Then o fun x => Then (f x) K := by
 constructor
 ·rintro ⟨p,hp,hk⟩
  simp only [Option.bind_eq_some_iff] at hp
  obtain ⟨x,hx,hf⟩ := hp
  exact ⟨x,hx,p,hf,hk⟩
 ·rintro ⟨x,hx,p,hf,hk⟩
  exact ⟨p,by rw [hx]; exact hf,hk⟩
@[simp] theorem aPz {α : Type} (c : Prop) [Decidable c] (o : Option α) (K : α → Prop) : Then (if c then o else none) K ↔ c ∧ Then o K := by
 constructor
 ·rintro ⟨p,hp,hk⟩
  split at hp
  ·rename_i hc; exact ⟨hc,p,hp,hk⟩
  ·cases hp
 ·rintro ⟨hc,p,hp,hk⟩
  exact ⟨p,by rw [if_pos hc]; exact hp,hk⟩
@[simp] theorem aOs {α : Type} (c : Prop) [Decidable c] (o : Option α) (K : α → Prop) : Then (if c then none else o) K ↔ ¬ c ∧ Then o K := by
 constructor
 ·rintro ⟨p,hp,hk⟩
  split at hp
  ·cases hp
  ·rename_i hc; exact ⟨hc,p,hp,hk⟩
 ·rintro ⟨hc,p,hp,hk⟩
  exact ⟨p,by rw [if_neg hc]; exact hp,hk⟩
section
variable (P : Program) (t : TypeId) (xo yo : Operand)
@[simp] theorem aMS {α : Type} (a : α) : bD P (pure a) = some a := rfl
@[simp] theorem aLJ {α : Type} (a : α) : bD P (Sem.pure a) = some a := rfl
theorem fG (op : BinOp) (k k' : IntKind) (a b : Int) : eqGuard op t xo yo (.int k a) (.int k' b) = pure () := by cases op <;> rfl
theorem aG5 (op : BinOp) (a b : ByteArray) : eqGuard op t xo yo (.string a) (.string b) = pure () := by cases op <;> rfl
@[simp] theorem aL2 (k : IntKind) (a b : Int) : dR P .add t xo yo (.sc (.int k a)) (.sc (.int k b)) = some (.sc (.int k (k.wrap (a + b)))) := by
 simp [dR,eU,dZ,fG,binOp,Op.intArith,pureV]; rfl
@[simp] theorem aLV (k : IntKind) (a b : Int) : dR P .sub t xo yo (.sc (.int k a)) (.sc (.int k b)) = some (.sc (.int k (k.wrap (a - b)))) := by
 simp [dR,eU,dZ,fG,binOp,Op.intArith,pureV]; rfl
@[simp] theorem aMK (k : IntKind) (a b : Int) : dR P .mul t xo yo (.sc (.int k a)) (.sc (.int k b)) = some (.sc (.int k (k.wrap (a * b)))) := by
 simp [dR,eU,dZ,fG,binOp,Op.intArith,pureV]; rfl
@[simp] theorem aMM (k : IntKind) (a b : Int) : dR P .and t xo yo (.sc (.int k a)) (.sc (.int k b)) = some (.sc (.int k (bits .and k a b))) := by
 simp [dR,eU,dZ,fG,binOp,Op.intBits,pureV]; rfl
@[simp] theorem aNN (k : IntKind) (a b : Int) : dR P .or t xo yo (.sc (.int k a)) (.sc (.int k b)) = some (.sc (.int k (bits .or k a b))) := by
 simp [dR,eU,dZ,fG,binOp,Op.intBits,pureV]; rfl
@[simp] theorem aMj (k : IntKind) (a b : Int) : dR P .xor t xo yo (.sc (.int k a)) (.sc (.int k b)) = some (.sc (.int k (bits .xor k a b))) := by
 simp [dR,eU,dZ,fG,binOp,Op.intBits,pureV]; rfl
@[simp] theorem aLE (k : IntKind) (a b : Int) : dR P .eql t xo yo (.sc (.int k a)) (.sc (.int k b)) = some (.sc (.bool (a == b))) := by
 simp [dR,eU,dZ,fG,binOp,Op.intCmp,pureV]; rfl
@[simp] theorem aIa (k : IntKind) (a b : Int) : dR P .neq t xo yo (.sc (.int k a)) (.sc (.int k b)) = some (.sc (.bool (a != b))) := by
 simp [dR,eU,dZ,fG,binOp,Op.intCmp,pureV]; rfl
@[simp] theorem aMC (k : IntKind) (a b : Int) : dR P .lss t xo yo (.sc (.int k a)) (.sc (.int k b)) = some (.sc (.bool (decide (a < b)))) := by
 simp [dR,eU,dZ,fG,binOp,Op.intCmp,pureV]; rfl
@[simp] theorem aMF (k : IntKind) (a b : Int) : dR P .leq t xo yo (.sc (.int k a)) (.sc (.int k b)) = some (.sc (.bool (decide (a ≤ b)))) := by
 simp [dR,eU,dZ,fG,binOp,Op.intCmp,pureV]; rfl
@[simp] theorem aMh (k : IntKind) (a b : Int) : dR P .gtr t xo yo (.sc (.int k a)) (.sc (.int k b)) = some (.sc (.bool (decide (b < a)))) := by
 simp [dR,eU,dZ,fG,binOp,Op.intCmp,pureV]; rfl
@[simp] theorem aMQ (k : IntKind) (a b : Int) : dR P .geq t xo yo (.sc (.int k a)) (.sc (.int k b)) = some (.sc (.bool (decide (b ≤ a)))) := by
 simp [dR,eU,dZ,fG,binOp,Op.intCmp,pureV]; rfl
@[simp] theorem aLU (k : IntKind) (a b : Int) : dR P .quo t xo yo (.sc (.int k a)) (.sc (.int k b)) = if b = 0 then none else some (.sc (.int k (k.wrap (a.tdiv b)))) := by
 simp only [dR,eU,dZ,fG,binOp,Op.intDiv,pureV,ne_eq,not_true,if_false]
 split <;> rfl
@[simp] theorem aMv (k : IntKind) (a b : Int) : dR P .rem t xo yo (.sc (.int k a)) (.sc (.int k b)) = if b = 0 then none else some (.sc (.int k (a.tmod b))) := by
 simp only [dR,eU,dZ,fG,binOp,Op.intDiv,pureV,ne_eq,not_true,if_false]
 split <;> rfl
@[simp] theorem aLX (k k' : IntKind) (a b : Int) : dR P .shl t xo yo (.sc (.int k a)) (.sc (.int k' b)) = if b < 0 then none else some (.sc (.int k (k.wrap (a * 2 ^ (min b.toNat k.bits))))) := by
 simp only [dR,eU,dZ,fG,binOp,Op.shift,pureV]
 split <;> rfl
@[simp] theorem aMd (k k' : IntKind) (a b : Int) : dR P .shr t xo yo (.sc (.int k a)) (.sc (.int k' b)) = if b < 0 then none else some (.sc (.int k (a.fdiv (2 ^ (min b.toNat k.bits))))) := by
 simp only [dR,eU,dZ,fG,binOp,Op.shift,pureV]
 split <;> rfl
@[simp] theorem aNd (b : Bool) : unV P .not (.sc (.bool b)) = some (.sc (.bool (!b))) := rfl
theorem aHW (h : Hp) (a b : TypeId) (v : Value) : n7 P h a b (.sc v) = none := by
 unfold n7
 split
 ·split <;> first | rfl | simp [fK]
 ·rfl
theorem eV {h : Hp} {a b : TypeId} {d : TI} {k k' : IntKind} {n : Int} (ha : ∃ da,aN P a = some da) (hb : aN P b = some d) (hd : d.desc = .int k) : uZ P h a b (.sc (.int k' n)) = some (.sc (.int k (k.wrap n))) := by
 obtain ⟨da,ha⟩ := ha
 have h1 := (cC ha).1
 have h2 := (cC hb).1
 rw [hd] at h2
 have e1 : underlying a = Sem.program fun p => match p.underlying a with | some d => pure d | none => stuck "no such type" := rfl
 have e2 : underlying b = Sem.program fun p => match p.underlying b with | some d => pure d | none => stuck "no such type" := rfl
 simp only [uZ,aHW,eU,dZ,pureV]
 have : bD P (convert a b (.int k' n)) = some (.int k (k.wrap n)) := by
  unfold convert
  rw [e1,e2]
  show bD P (Sem.bind (Sem.program _) _) = _
  simp only [Sem.bind,bD,h1]
  show bD P (Sem.bind (Sem.program _) _) = _
  simp only [Sem.bind,bD,h2]
  cases da.desc <;> rfl
 rw [this]; rfl
@[simp] theorem aPC : IntKind.u8.bits = 8 := rfl
@[simp] theorem aOJ : IntKind.u16.bits = 16 := rfl
@[simp] theorem aPi : IntKind.u32.bits = 32 := rfl
@[simp] theorem aPa : IntKind.u64.bits = 64 := rfl
@[simp] theorem aPx : IntKind.i64.bits = 64 := rfl
theorem b4 {a : Int} (h1 : -9223372036854775808 ≤ a) (h2 : a ≤ 9223372036854775807) : IntKind.i64.wrap a = a := by rw [IntKind.wrap_i64]; omega
theorem uJ {a : Int} (h1 : 0 ≤ a) (h2 : a ≤ 18446744073709551615) : IntKind.u64.wrap a = a := by rw [IntKind.wrap_u64]; omega
theorem aON {a : Int} (h1 : 0 ≤ a) (h2 : a ≤ 4294967295) : IntKind.u32.wrap a = a := by rw [IntKind.wrap_u32]; omega
end
attribute [irreducible] OpsTo Then
end Go.Vm
namespace Go.Vm
open Go Go.ChangeShapes Go.WideShapes Go.ChangeAt Go.RowKit
def sK : Nat → Prop := fun _ => False
def aJ2 (l : List UInt8) : List V := l.map fun b => .sc (.int .u8 b.toNat)
@[simp] theorem aOa (l : List UInt8) : (aJ2 l).length = l.length := by simp [aJ2]
section
variable {H : Type} {enc : TypeId × Value → H} {P : Program} {w : World} {spare : Nat → Bool} {held : Bool}
theorem aBK {W W' : World} (hlaid : laidOutB P = true) (hb : Below W.heap.size W W') : ∀ {ts : List TypeId} {vs : List Value} {ds : List (DataW H)} {p : List MemPlace},
  (∀ t ∈ ts,P.readableRec t = true ∧ t < P.types.size) → DataW.TrodAll enc P W 0 (fun _ => true) true ts vs ds p → DataW.TrodAll enc P W' 0 (fun b => decide (b < W.heap.size)) true ts vs ds p
 | [],vs,ds,p,_,h => by obtain ⟨rfl,rfl,rfl⟩ := trodAll_nil h; exact trodAll_mk0
 | t :: ts,vs,ds,p,hr,h => by
  obtain ⟨v,vs',d,ds',p',q,rfl,rfl,rfl,h1,h2⟩ := trodAll_cons h
  obtain ⟨r1,r2⟩ := hr t (by simp)
  refine trodAll_cons_mk (Below.trod hlaid r1 r2 h1 hb ?_) (aBK hlaid hb (fun t ht => hr t (by simp [ht])) h2)
  obtain ⟨m,hm⟩ := h1
  exact DataW.trod_lt m _ _ _ hm
end
theorem aHc {P : Program} {f : FuncId} {fn : Func} {c : Code} {args : List V} {vs : List Value} {w : World} (hf : P.funcs[f]? = some fn) (hb : fn.body = some c) (hn : (fn.name == "runtime.NumGoroutine") = false)
  (hp : PFn P f args (.sc (.bool true))) (hGl : Globs sK w) (hv : VCells sK [] w args vs) : Calls P f vs.toArray w fun e w' => e = .returned (.bool true) ∧ Below w.heap.size w w' := by
 rcases hp sK w vs (fun _ h => h.elim) hGl hv with ⟨_,h⟩ | ⟨v,w',h,_⟩
 ·refine h.mono fun e w' ⟨v,he,hE,hr⟩ => ?_
  unfold VR at hr
  subst hr
  exact ⟨he,hE.below fun _ _ h => h⟩
 ·rw [aFE hf (by rw [hb]; rfl) hn] at h
  cases h
end Go.Vm
namespace Go.Vm
open Go
def Env.zero {P : Program} (hm : P.follows .mixedOrders = true) : Env P :=
 { O := fun _ _ _ => none,F := fun _ => false,ok := fun _ _ _ _ _ hh => (by cases hh),still := fun _ _ _ _ _ hf => (by cases hf),mixed := hm }
open Classical in
noncomputable def Env.one {P : Program} (hm : P.follows .mixedOrders = true) {f : FuncId} {h : Hp} {xs : List V} {r : V} {h' : Hp} (hc : Fn P f h xs r h') (g : FuncId → Bool) (hg : ∀ k,g k = true → h' = h) : Env P :=
 {
  O := fun k h1 xs1 => if k = f ∧ h1 = h ∧ xs1 = xs then some (r,h') else none
  F := g
  ok := fun k h1 xs1 r1 h2 hh => by
   dsimp only at hh
   split at hh
   ·rename_i he
    obtain ⟨rfl,rfl,rfl⟩ := he
    simp only [Option.some.injEq,Prod.mk.injEq] at hh
    obtain ⟨rfl,rfl⟩ := hh
    exact hc
   ·cases hh
  still := fun k h1 xs1 r1 h2 hk hh => by
   dsimp only at hh
   split at hh
   ·rename_i he
    simp only [Option.some.injEq,Prod.mk.injEq] at hh
    rw [← hh.2,he.2.1]
    exact hg k hk
   ·cases hh
  mixed := hm }
open Classical in
noncomputable def Env.add {P : Program} (E : Env P) {f : FuncId} {h : Hp} {xs : List V} {r : V} {h' : Hp} (hc : Fn P f h xs r h') (g : FuncId → Bool) (hg : ∀ k,g k = true → h' = h) (hE : ∀ k,g k = true → E.F k = true) : Env P :=
 {
  O := fun k h1 xs1 => if k = f then (if h1 = h ∧ xs1 = xs then some (r,h') else none) else E.O k h1 xs1
  F := g
  ok := fun k h1 xs1 r1 h2 hh => by
   dsimp only at hh
   split at hh
   ·rename_i he
    subst he
    split at hh
    ·rename_i he
     obtain ⟨rfl,rfl⟩ := he
     simp only [Option.some.injEq,Prod.mk.injEq] at hh
     obtain ⟨rfl,rfl⟩ := hh
     exact hc
    ·cases hh
   ·exact E.ok k h1 xs1 r1 h2 hh
  still := fun k h1 xs1 r1 h2 hk hh => by
   dsimp only at hh
   split at hh
   ·split at hh
    ·rename_i he
     simp only [Option.some.injEq,Prod.mk.injEq] at hh
     rw [← hh.2,he.1]
     exact hg k hk
    ·cases hh
   ·exact E.still k h1 xs1 r1 h2 (hE k hk) hh
  mixed := E.mixed }
def Wk : List V → List V → Prop
 | [],[] => True
 | a :: s,b :: t => (b = .any ∨ a = b) ∧ Wk s t
 | _,_ => False
theorem Wk.len : ∀ {s t : List V},Wk s t → s.length = t.length
 | [],[],_ => rfl
 | a :: s,b :: t,h => by simp [Wk.len h.2]
 | [],_ :: _,h => h.elim
 | _ :: _,[],h => h.elim
section
variable {P : Program} {K : List V → Hp → Prop} {Q : Ex → List V → Hp → Prop} {s : List V} {h : Hp} {id i : Nat}
theorem Ex.then_mk (hk : K s h) : Ex.then K Q .normal s h := hk
theorem Ex.then_exit_mk (hk : Q (.exit i) s h) : Ex.then K Q (.exit i) s h := hk
theorem Ex.then_ret_mk (hk : Q .ret s h) : Ex.then K Q .ret s h := hk
theorem Ex.inBlock_mk (hk : Q .normal s h) : Ex.inBlock id Q .normal s h := hk
theorem Ex.inBlock_ret_mk (hk : Q .ret s h) : Ex.inBlock id Q .ret s h := hk
theorem Ex.inBlock_same_mk (hk : Q .normal s h) : Ex.inBlock id Q (.exit id) s h := by simpa [Ex.inBlock] using hk
theorem Ex.inBlock_other_mk (hi : (i == id) = false) (hk : Q (.exit i) s h) : Ex.inBlock id Q (.exit i) s h := by simp at hi; simpa [Ex.inBlock,hi] using hk
end
mutual
def V.rn (f : Nat → Nat) : V → V
 | .ptr b off => .ptr (f b) off
 | .sl b off n k ag => .sl (f b) off n k ag
 | .mp b => .mp (f b)
 | .agg cs => .agg (V.rns f cs)
 | .tup cs => .tup (V.rns f cs)
 | .sc v => .sc v
 | .row nil k es => .row nil k es
 | .eptr es i off => .eptr es i off
 | .any => .any
def V.rns (f : Nat → Nat) : List V → List V
 | [] => []
 | c :: cs => c.rn f :: V.rns f cs
end
theorem V.rns_length (f : Nat → Nat) : ∀ cs : List V,(V.rns f cs).length = cs.length
 | [] => rfl
 | _ :: cs => by simp [V.rns,V.rns_length f cs]
theorem V.rns_mem {f : Nat → Nat} {p : V → Bool} (hp : ∀ c,p c = true → p (c.rn f) = true) : ∀ {cs : List V},(∀ c ∈ cs,p c = true) → ∀ c ∈ V.rns f cs,p c = true
 | [],_,c,hc => by simp [V.rns] at hc
 | d :: cs,h,c,hc => by
  simp only [V.rns,List.mem_cons] at hc
  rcases hc with rfl | hc
  ·exact hp d (h d (by simp))
  ·exact V.rns_mem hp (fun c hc => h c (by simp [hc])) c hc
theorem V.rn_one (f : Nat → Nat) (c : V) (h : c.one = true) : (c.rn f).one = true := by
 cases c <;> first | exact h | rfl | (simp [V.one] at h)
theorem V.one_rn (f : Nat → Nat) (c : V) (h : (c.rn f).one = true) : c.one = true := by
 cases c <;> first | exact h | rfl | (simp [V.one,V.rn] at h)
theorem V.one_rns {f : Nat → Nat} : ∀ {cs : List V},(∀ c ∈ V.rns f cs,c.one = true) → ∀ c ∈ cs,c.one = true
 | [],_,c,hc => by simp at hc
 | d :: cs,h,c,hc => by
  simp only [V.rns,List.mem_cons,forall_eq_or_imp] at h
  simp only [List.mem_cons] at hc
  rcases hc with rfl | hc
  ·exact V.one_rn f _ h.1
  ·exact V.one_rns h.2 c hc
section
variable {X : Nat → Prop} {M M' : List (Option Nat)} {w : World} {f : Nat → Nat}
mutual
theorem VR.rn_to (hM : ∀ b y,M[b]? = some y → M'[f b]? = some y) : ∀ (x : V) (v : Value),VR X M w x v → VR X M' w (x.rn f) v
 | .sc c,v,h => by unfold V.rn; unfold VR at h ⊢; exact h
 | .any,v,h => by unfold V.rn; unfold VR; trivial
 | .row nil k es,v,h => by unfold V.rn; unfold VR at h ⊢; exact h
 | .eptr es i off,v,h => by unfold V.rn; unfold VR at h ⊢; exact h
 | .ptr b off,v,h => by
  unfold V.rn; unfold VR at h ⊢
  obtain ⟨g,sh,h1,h2⟩ := h
  exact ⟨g,sh,hM _ _ h1,h2⟩
 | .mp b,v,h => by
  unfold V.rn; unfold VR at h ⊢
  obtain ⟨g,h1,h2⟩ := h
  exact ⟨g,hM _ _ h1,h2⟩
 | .sl b off n k ag,v,h => by
  unfold V.rn; unfold VR at h ⊢
  rcases h with ⟨h1,h2⟩ | ⟨g,cap,e,sz,h1,h2⟩
  ·exact .inl ⟨hM _ _ h1,h2⟩
  ·exact .inr ⟨g,cap,e,sz,hM _ _ h1,h2⟩
 | .agg cs,v,h => by
  unfold V.rn; unfold VR at h ⊢
  obtain ⟨vs,h1,h2⟩ := h
  exact ⟨vs,h1,VCells.rn_to hM cs vs h2⟩
 | .tup cs,v,h => by
  unfold V.rn; unfold VR at h ⊢
  obtain ⟨vs,h1,h2⟩ := h
  exact ⟨vs,h1,VCells.rn_to hM cs vs h2⟩
theorem VCells.rn_to (hM : ∀ b y,M[b]? = some y → M'[f b]? = some y) : ∀ (cs : List V) (vs : List Value),VCells X M w cs vs → VCells X M' w (V.rns f cs) vs
 | [],vs,h => by unfold V.rns; unfold VCells at h ⊢; exact h
 | c :: cs,vs,h => by
  unfold V.rns; unfold VCells at h ⊢
  obtain ⟨v,rest,h1,h2,h3⟩ := h
  exact ⟨v,rest,h1,VR.rn_to hM c v h2,VCells.rn_to hM cs rest h3⟩
end
mutual
theorem VR.rn_from (hM : ∀ b y,M'[f b]? = some y → M[b]? = some y) : ∀ (x : V) (v : Value),VR X M' w (x.rn f) v → VR X M w x v
 | .sc c,v,h => by unfold V.rn at h; unfold VR at h ⊢; exact h
 | .any,v,h => by unfold VR; trivial
 | .row nil k es,v,h => by unfold V.rn at h; unfold VR at h ⊢; exact h
 | .eptr es i off,v,h => by unfold V.rn at h; unfold VR at h ⊢; exact h
 | .ptr b off,v,h => by
  unfold V.rn at h; unfold VR at h ⊢
  obtain ⟨g,sh,h1,h2⟩ := h
  exact ⟨g,sh,hM _ _ h1,h2⟩
 | .mp b,v,h => by
  unfold V.rn at h; unfold VR at h ⊢
  obtain ⟨g,h1,h2⟩ := h
  exact ⟨g,hM _ _ h1,h2⟩
 | .sl b off n k ag,v,h => by
  unfold V.rn at h; unfold VR at h ⊢
  rcases h with ⟨h1,h2⟩ | ⟨g,cap,e,sz,h1,h2⟩
  ·exact .inl ⟨hM _ _ h1,h2⟩
  ·exact .inr ⟨g,cap,e,sz,hM _ _ h1,h2⟩
 | .agg cs,v,h => by
  unfold V.rn at h; unfold VR at h ⊢
  obtain ⟨vs,h1,h2⟩ := h
  exact ⟨vs,h1,VCells.rn_from hM cs vs h2⟩
 | .tup cs,v,h => by
  unfold V.rn at h; unfold VR at h ⊢
  obtain ⟨vs,h1,h2⟩ := h
  exact ⟨vs,h1,VCells.rn_from hM cs vs h2⟩
theorem VCells.rn_from (hM : ∀ b y,M'[f b]? = some y → M[b]? = some y) : ∀ (cs : List V) (vs : List Value),VCells X M' w (V.rns f cs) vs → VCells X M w cs vs
 | [],vs,h => by unfold V.rns at h; unfold VCells at h ⊢; exact h
 | c :: cs,vs,h => by
  unfold V.rns at h; unfold VCells at h ⊢
  obtain ⟨v,rest,h1,h2,h3⟩ := h
  exact ⟨v,rest,h1,VR.rn_from hM c v h2,VCells.rn_from hM cs rest h3⟩
end
end
def Blk.rn (f : Nat → Nat) (B : Blk) : Blk := ⟨B.e,V.rns f B.cells⟩
def m7 (f : Nat → Nat) (h : Hp) : Hp := h.map (Option.map (Blk.rn f))
def sg (ρ : List Nat) (L : Nat) (i : Nat) : Nat := match ρ[i]? with
 | some b => b
 | none => L + (i - ρ.length)
def dN : Hp → List Nat → Hp → Hp
 | h,b :: ρ,o :: os => dN (h.set b o) ρ os
 | h,_,_ => h
theorem wU : ∀ (h : Hp) (ρ : List Nat) (o : Hp),(dN h ρ o).length = h.length
 | h,b :: ρ,x :: o => by rw [dN,wU]; simp
 | h,[],_ => by simp [dN]
 | h,_ :: _,[] => by simp [dN]
theorem w8 : ∀ {h : Hp} {ρ : List Nat} {o : Hp} {b : Nat},b ∉ ρ → (dN h ρ o)[b]? = h[b]?
 | h,c :: ρ,x :: o,b,hb => by
  simp only [List.mem_cons,not_or] at hb
  rw [dN,w8 hb.2,List.getElem?_set_ne (fun e => hb.1 e.symm)]
 | h,[],_,b,_ => by simp [dN]
 | h,_ :: _,[],b,_ => by simp [dN]
theorem aBH : ∀ {h : Hp} {ρ : List Nat} {o : Hp} {i b : Nat},ρ.Nodup → (∀ b ∈ ρ,b < h.length) → ρ.length ≤ o.length → ρ[i]? = some b → (dN h ρ o)[b]? = o[i]?
 | h,c :: ρ,x :: o,0,b,hn,hl,_,hi => by
  simp only [List.getElem?_cons_zero,Option.some.injEq] at hi
  subst hi
  have hc : c < h.length := hl c (by simp)
  rw [dN,w8 (List.nodup_cons.1 hn).1]
  simp [hc]
 | h,c :: ρ,x :: o,i + 1,b,hn,hl,hle,hi => by
  simp only [List.getElem?_cons_succ] at hi
  rw [dN,aBH (List.nodup_cons.1 hn).2 (fun b hb => by simpa using hl b (by simp [hb])) (by simpa using hle) hi]
  simp
 | h,[],_,i,b,_,_,_,hi => by simp at hi
 | h,_ :: _,[],i,b,_,_,hle,_ => by simp at hle
theorem aEZ {f : Nat → Nat} {h : Hp} {i : Nat} : (m7 f h)[i]? = (h[i]?).map (Option.map (Blk.rn f)) := by simp [m7]
theorem z9 {f : Nat → Nat} {h : Hp} {i : Nat} {B : Blk} (hb : (m7 f h)[i]? = some (some B)) : ∃ C,h[i]? = some (some C) ∧ B = C.rn f := by
 rw [aEZ] at hb
 cases hi : h[i]? with
 | none => rw [hi] at hb; cases hb
 | some o =>
  rw [hi] at hb
  cases o with
  | none => simp at hb
  | some C => simp at hb; exact ⟨C,rfl,hb.symm⟩
def iG (hb : Hp) (ρ : List Nat) (hs' : Hp) : Hp := dN hb ρ (m7 (sg ρ hb.length) hs') ++ (m7 (sg ρ hb.length) hs').drop ρ.length
theorem Fn.frame {P : Program} {f : FuncId} {hs hs' hb : Hp} {args : List V} {r : V} (hc : Fn P f hs args r hs') (ρ : List Nat) (hlen : ρ.length = hs.length) (hnd : ρ.Nodup) (hlt : ∀ b ∈ ρ,b < hb.length)
  (hlend : ∀ i b : Nat,ρ[i]? = some b → hb[b]? = (m7 (sg ρ hb.length) hs)[i]?) : Fn P f hb (V.rns (sg ρ hb.length) args) (r.rn (sg ρ hb.length)) (iG hb ρ hs') := by
 intro A M w vs H hargs
 have hσ : ∀ i b : Nat,ρ[i]? = some b → sg ρ hb.length i = b := fun i b hi => by simp [sg,hi]
 have hσ' : ∀ i,ρ.length ≤ i → sg ρ hb.length i = hb.length + (i - ρ.length) := fun i hi => by simp [sg,hi]
 generalize hsg : sg ρ hb.length = σ at *
 let Ms : List (Option Nat) := ρ.map fun b => (M[b]?).getD none
 have hMs : ∀ i b : Nat,ρ[i]? = some b → Ms[i]? = M[b]? := by
  intro i b hi
  have hb' : b < M.length := by rw [H.len]; exact hlt b (List.mem_of_getElem? hi)
  simp only [Ms,List.getElem?_map,hi,Option.map_some]
  rw [List.getElem?_eq_getElem hb']
  rfl
 have hMslen : Ms.length = hs.length := by simp [Ms,hlen]
 have hfrom : ∀ b y,M[σ b]? = some y → Ms[b]? = some y := by
  intro b y hy
  rcases Nat.lt_or_ge b ρ.length with hl | hl
  ·have hi : ρ[b]? = some ρ[b] := List.getElem?_eq_getElem hl
   rw [hMs b _ hi,← hσ b _ hi]; exact hy
  ·rw [hσ' b hl] at hy
   have := (List.getElem?_eq_some_iff.1 hy).1
   rw [H.len] at this; omega
 let A' : Nat → Prop := fun g => A g ∨ ∃ b B,b ∉ ρ ∧ hb[b]? = some (some B) ∧ M[b]? = some (some g)
 have hin : ∀ {i : Nat} {B : Blk},hs[i]? = some (some B) → ∃ b,ρ[i]? = some b ∧ hb[b]? = some (some (B.rn σ)) ∧ Ms[i]? = M[b]? := by
  intro i B hi
  have hl : i < ρ.length := by rw [hlen]; exact (List.getElem?_eq_some_iff.1 hi).1
  have hr : ρ[i]? = some ρ[i] := List.getElem?_eq_getElem hl
  refine ⟨_,hr, ?_,hMs i _ hr⟩
  rw [hlend i _ hr,aEZ,hi]; rfl
 have hliveS : ∀ g,dA Ms hs g → dA M hb g := by
  rintro g ⟨i,B,hi,hm⟩
  obtain ⟨b,_,hb1,hb2⟩ := hin hi
  exact ⟨b,_,hb1,by rw [← hb2]; exact hm⟩
 have hX1 : ∀ g,Xs A' Ms hs g → Xs A M hb g := by
  rintro g ((ha | ⟨b,B,_,hb1,hb2⟩) | hl)
  ·exact .inl ha
  ·exact .inr ⟨b,B,hb1,hb2⟩
  ·exact .inr (hliveS g hl)
 have hX2 : ∀ g,Xs A M hb g → Xs A' Ms hs g := by
  rintro g (ha | ⟨b,B,hb1,hb2⟩)
  ·exact .inl (.inl ha)
  ·by_cases hm : b ∈ ρ
   ·obtain ⟨i,hi⟩ := List.mem_iff_getElem?.1 hm
    have he := hlend i b hi
    rw [hb1] at he
    obtain ⟨C,hC,_⟩ := z9 he.symm
    exact .inr ⟨i,C,hC,by rw [hMs i b hi]; exact hb2⟩
   ·exact .inl (.inr ⟨b,B,hm,hb1,hb2⟩)
 have hout : ∀ {b : Nat} {B : Blk} {g : Nat},b ∉ ρ → hb[b]? = some (some B) → M[b]? = some (some g) → ¬ dA Ms hs g := by
  rintro b B g hb0 hb1 hb2 ⟨i,C,hi,hm⟩
  obtain ⟨c,hc0,hc1,hc2⟩ := hin hi
  have := H.inj b c B _ g hb1 hc1 hb2 (by rw [← hc2]; exact hm)
  subst this
  exact hb0 (List.mem_of_getElem? hc0)
 have HS : HR A' Ms hs w := by
  refine ⟨hMslen, ?_, ?_, ?_,H.glob.avoid fun g _ hx => hX1 g hx⟩
  ·rintro g (ha | ⟨b,B,_,hb1,hb2⟩)
   ·exact H.alt g ha
   ·exact H.lt (.inr ⟨b,B,hb1,hb2⟩)
  ·intro i B hi
   obtain ⟨b,hb0,hb1,hb2⟩ := hin hi
   obtain ⟨h1,h2⟩ := H.blk b _ hb1
   refine ⟨V.one_rns h1, ?_⟩
   rcases h2 with ⟨hn,hc0⟩ | ⟨g,cs,hg,hA,hh,hle,hcs⟩
   ·refine .inl ⟨by rw [hb2]; exact hn, ?_⟩
    have := congrArg List.length hc0
    simp only [Blk.rn,V.rns_length,List.length_nil] at this
    exact List.eq_nil_of_length_eq_zero this
   ·refine .inr ⟨g,cs,by rw [hb2]; exact hg, ?_,by simpa [Blk.rn,V.rns_length] using hh, ?_, ?_⟩
    ·rintro (ha | ⟨c,C,hc0,hc1,hc2⟩)
     ·exact hA ha
     ·have := H.inj b c _ C g hb1 hc1 hg hc2
      subst this
      exact hc0 (List.mem_of_getElem? hb0)
    ·simpa [Blk.rn,V.rns_length] using hle
    ·have hcs' : VCells (Xs A M hb) M w (V.rns σ B.cells) (cs.toList.take B.cells.length) := by simpa [Blk.rn,V.rns_length] using hcs
     exact (VCells.rn_from hfrom _ _ hcs').avoid (fun g _ hx => hX1 g hx)
  ·intro i j B C g hi hj mi mj
   obtain ⟨b,hb0,hb1,hb2⟩ := hin hi
   obtain ⟨c,hc0,hc1,hc2⟩ := hin hj
   have := H.inj b c _ _ g hb1 hc1 (by rw [← hb2]; exact mi) (by rw [← hc2]; exact mj)
   subst this
   have hil := (List.getElem?_eq_some_iff.1 hb0).1
   exact (List.getElem?_inj hil hnd).1 (hb0.trans hc0.symm)
 have hargsS : VCells (Xs A' Ms hs) Ms w args vs := (VCells.rn_from hfrom _ _ hargs).avoid (fun g _ hx => hX1 g hx)
 refine (hc A' Ms w vs HS hargsS).mono fun v w' ⟨Ms',G,hv⟩ => ?_
 obtain ⟨Mn,rfl⟩ := G.pre
 have hMnlen : hs'.length = ρ.length + Mn.length := by rw [← G.hr.len]; simp [Ms]
 have hto : ∀ b y,(Ms ++ Mn)[b]? = some y → (M ++ Mn)[σ b]? = some y := by
  intro b y hy
  rcases Nat.lt_or_ge b ρ.length with hl | hl
  ·have hi : ρ[b]? = some ρ[b] := List.getElem?_eq_getElem hl
   rw [List.getElem?_append_left (by rw [hMslen,← hlen]; exact hl),hMs b _ hi] at hy
   rw [hσ b _ hi,List.getElem?_append_left (by rw [H.len]; exact hlt _ (List.mem_of_getElem? hi))]
   exact hy
  ·rw [List.getElem?_append_right (by rw [hMslen,← hlen]; exact hl),hMslen,← hlen] at hy
   rw [hσ' b hl,List.getElem?_append_right (by rw [H.len]; omega),H.len,show hb.length + (b - ρ.length) - hb.length = b - ρ.length by omega]
   exact hy
 have hlentlen : (dN hb ρ (m7 σ hs')).length = hb.length := wU _ _ _
 have hrnlen : (m7 σ hs').length = hs'.length := by simp [m7]
 have hcase : ∀ {b : Nat} {B : Blk},(iG hb ρ hs')[b]? = some (some B) → (b ∉ ρ ∧ hb[b]? = some (some B)) ∨ ∃ i C,hs'[i]? = some (some C) ∧ b = σ i ∧ B = C.rn σ ∧ (M ++ Mn)[b]? = (Ms ++ Mn)[i]? := by
  intro b B hb1
  unfold iG at hb1
  rw [hsg] at hb1
  rcases Nat.lt_or_ge b hb.length with hl | hl
  ·rw [List.getElem?_append_left (by rw [hlentlen]; exact hl)] at hb1
   by_cases hm : b ∈ ρ
   ·obtain ⟨i,hi⟩ := List.mem_iff_getElem?.1 hm
    rw [aBH hnd hlt (by rw [hrnlen]; omega) hi] at hb1
    obtain ⟨C,hC,hB⟩ := z9 hb1
    have hil := (List.getElem?_eq_some_iff.1 hi).1
    refine .inr ⟨i,C,hC,(hσ i b hi).symm,hB, ?_⟩
    rw [List.getElem?_append_left (by rw [H.len]; exact hl),List.getElem?_append_left (by rw [hMslen,← hlen]; exact hil),hMs i b hi]
   ·rw [w8 hm] at hb1
    exact .inl ⟨hm,hb1⟩
  ·rw [List.getElem?_append_right (by rw [hlentlen]; exact hl),hlentlen,List.getElem?_drop] at hb1
   obtain ⟨C,hC,hB⟩ := z9 hb1
   refine .inr ⟨_,C,hC, ?_,hB, ?_⟩
   ·rw [hσ' _ (by omega)]; omega
   ·rw [List.getElem?_append_right (by rw [H.len]; exact hl),List.getElem?_append_right (by rw [hMslen,← hlen]; omega),H.len,hMslen,← hlen]
    congr 1; omega
 have hlive : ∀ g,g < w.heap.size → dA (M ++ Mn) (iG hb ρ hs') g → dA M hb g := by
  rintro g hg ⟨b,B,hb1,hb2⟩
  rcases hcase hb1 with ⟨hb0,hb3⟩ | ⟨i,C,hC,rfl,rfl,he⟩
  ·refine ⟨b,B,hb3, ?_⟩
   rw [List.getElem?_append_left (by rw [H.len]; exact (List.getElem?_eq_some_iff.1 hb3).1)] at hb2
   exact hb2
  ·exact hliveS g (G.live g hg ⟨i,C,hC,by rw [← he]; exact hb2⟩)
 have hX3 : ∀ g,Xs A (M ++ Mn) (iG hb ρ hs') g → Xs A' (Ms ++ Mn) hs' g := by
  rintro g (ha | ⟨b,B,hb1,hb2⟩)
  ·exact .inl (.inl ha)
  ·rcases hcase hb1 with ⟨hb0,hb3⟩ | ⟨i,C,hC,rfl,rfl,he⟩
   ·rw [List.getElem?_append_left (by rw [H.len]; exact (List.getElem?_eq_some_iff.1 hb3).1)] at hb2
    exact .inl (.inr ⟨b,B,hb0,hb3,hb2⟩)
   ·exact .inr ⟨i,C,hC,by rw [← he]; exact hb2⟩
 refine ⟨M ++ Mn,⟨⟨Mn,rfl⟩,⟨?_, ?_, ?_, ?_,G.hr.glob.avoid fun g _ hx => hX3 g hx⟩,G.ext.mono (fun g _ hl => hliveS g hl),hlive⟩,(VR.rn_to hto _ _ hv).avoid (fun g _ hx => hX3 g hx)⟩
 ·unfold iG
  rw [hsg]
  simp only [List.length_append,List.length_drop,hlentlen,hrnlen,H.len]
  omega
 ·exact fun g hg => Nat.lt_of_lt_of_le (H.alt g hg) G.ext.size
 ·intro b B hb1
  rcases hcase hb1 with ⟨hb0,hb3⟩ | ⟨i,C,hC,rfl,rfl,he⟩
  ·have hbl : b < M.length := by rw [H.len]; exact (List.getElem?_eq_some_iff.1 hb3).1
   obtain ⟨h1,⟨hn,hc0⟩ | ⟨g,cs,hg,hA,hh,hle,hcs⟩⟩ := H.blk b B hb3
   ·exact ⟨h1,.inl ⟨by rw [List.getElem?_append_left hbl]; exact hn,hc0⟩⟩
   ·have hgs : g < w.heap.size := H.lt (.inr ⟨b,B,hb3,hg⟩)
    refine ⟨h1,.inr ⟨g,cs,by rw [List.getElem?_append_left hbl]; exact hg,hA, ?_,hle, ?_⟩⟩
    ·exact hh.to (G.ext.block g hgs (hout hb0 hb3 hg))
    ·exact VCells.ext G.ext ⟨Mn,rfl⟩ (fun g _ hl => .inr (hliveS g hl)) (fun g hg hx => hx.elim .inl (fun hl => .inr (hlive g hg hl))) _ _ hcs
  ·obtain ⟨h1,h2⟩ := G.hr.blk i C hC
   refine ⟨V.rns_mem (V.rn_one σ) h1, ?_⟩
   rcases h2 with ⟨hn,hc0⟩ | ⟨g,cs,hg,hA,hh,hle,hcs⟩
   ·refine .inl ⟨by rw [he]; exact hn, ?_⟩
    simp [Blk.rn,hc0,V.rns]
   ·refine .inr ⟨g,cs,by rw [he]; exact hg,fun ha => hA (.inl ha),by simpa [Blk.rn,V.rns_length] using hh, ?_, ?_⟩
    ·simpa [Blk.rn,V.rns_length] using hle
    ·have := (VCells.rn_to hto _ _ hcs).avoid (fun g _ hx => hX3 g hx)
     simpa [Blk.rn,V.rns_length] using this
 ·intro b c B C g hb1 hc1 mb mc
  rcases hcase hb1 with ⟨hb0,hb3⟩ | ⟨i,D,hD,rfl,rfl,he⟩ <;> rcases hcase hc1 with ⟨hc0,hc3⟩ | ⟨j,E,hE,rfl,rfl,he'⟩
  ·rw [List.getElem?_append_left (by rw [H.len]; exact (List.getElem?_eq_some_iff.1 hb3).1)] at mb
   rw [List.getElem?_append_left (by rw [H.len]; exact (List.getElem?_eq_some_iff.1 hc3).1)] at mc
   exact H.inj b c B C g hb3 hc3 mb mc
  ·rw [List.getElem?_append_left (by rw [H.len]; exact (List.getElem?_eq_some_iff.1 hb3).1)] at mb
   rw [he'] at mc
   obtain ⟨_,⟨hn,_⟩ | ⟨g',cs,hg,hA,_⟩⟩ := G.hr.blk j E hE
   ·rw [mc] at hn; cases hn
   ·rw [mc] at hg; injection hg with hg; injection hg with hg; subst hg
    exact absurd (.inr ⟨b,B,hb0,hb3,mb⟩) hA
  ·rw [List.getElem?_append_left (by rw [H.len]; exact (List.getElem?_eq_some_iff.1 hc3).1)] at mc
   rw [he] at mb
   obtain ⟨_,⟨hn,_⟩ | ⟨g',cs,hg,hA,_⟩⟩ := G.hr.blk i D hD
   ·rw [mb] at hn; cases hn
   ·rw [mb] at hg; injection hg with hg; injection hg with hg; subst hg
    exact absurd (.inr ⟨c,C,hc0,hc3,mc⟩) hA
  ·rw [G.hr.inj i j D E g hD hE (by rw [← he]; exact mb) (by rw [← he']; exact mc)]
def fL : List (Nat × V) → Nat → Option V
 | [],_ => none
 | (u,x) :: r,t => bif Nat.beq u t then some x else fL r t
def aE (n : Nat) (fr : List (Nat × V)) : List V := (List.range n).map fun t => (fL fr t).getD .any
theorem tB (n : Nat) (fr : List (Nat × V)) : (aE n fr).length = n := by simp [aE]
theorem zI {n t : Nat} {fr : List (Nat × V)} (h : t < n) : (aE n fr)[t]? = some ((fL fr t).getD .any) := by simp [aE,h]
def bI (n : Nat) (fr : List (Nat × V)) : Operand → Option V
 | .tmp t => bif Nat.blt t n then fL fr t else none
 | .const v => some (ofValue v)
 | .func f => some (.sc (.func (.func f) #[] #[]))
 | .global g => (GT g).map fun e => .eptr [e] 0 0
theorem cJ {n : Nat} {fr : List (Nat × V)} {o : Operand} {x : V} (h : bI n fr o = some x) : ev (aE n fr) o = some x := by
 cases o with
 | tmp t =>
  simp only [bI] at h
  cases hb : Nat.blt t n with
  | false => rw [hb] at h; cases h
  | true =>
   rw [hb] at h
   simp only [cond_true] at h
   have ht : t < n := by have h2 : Nat.ble (t + 1) n = true := hb; exact Nat.le_of_ble_eq_true h2
   simp only [ev]
   rw [zI ht,h]; rfl
 | const v => exact h
 | func f => exact h
 | global g => exact h
theorem aDj {n t : Nat} {fr : List (Nat × V)} {x : V} : jJ (aE n fr) (some t) x = aE n ((t,x) :: fr) := by
 simp only [jJ]
 apply List.ext_getElem?
 intro i
 by_cases hi : i < n
 ·rw [zI hi]
  by_cases ht : t = i
  ·subst ht
   rw [List.getElem?_set_self (by rw [tB]; exact hi)]
   simp [fL]
  ·rw [List.getElem?_set_ne ht,zI hi]
   have : Nat.beq t i = false := by cases hb : Nat.beq t i with
    | false => rfl
    | true => exact absurd (Nat.eq_of_beq_eq_true hb) ht
   simp [fL,this]
 ·rw [List.getElem?_eq_none (by rw [List.length_set,tB]; omega),List.getElem?_eq_none (by rw [tB]; omega)]
def AB (P : Program) (N : Nat) (c : Code) (Q : Ex → List V → Hp → Prop) (s : List V) (h : Hp) : Prop :=
 ∀ (A : Nat → Prop) (M0 M : List (Option Nat)) (h0 : Hp) (w0 : World) (a : Act) (w : World),h0.length = N → M0.length = N → Grow A M0 h0 w0 M h w → Rel A M s h a w →
  c.wp P (fun e a' w' => ∃ x s' h' M',e = Ex.toExit x ∧ Q x s' h' ∧ Grow A M0 h0 w0 M' h' w' ∧ Rel A M' s' h' a' w') a w
section
variable {P : Program} {N : Nat} {Q Q' : Ex → List V → Hp → Prop} {s s' : List V} {h h' : Hp}
theorem AB.of {c : Code} (hh : AW P c Q s h) : AB P N c Q s h := fun A M0 M h0 w0 a w _ _ G R =>
 Code.wp_mono (fun e a' w' ⟨x,s',h',M',h1,h2,h3,h4⟩ => ⟨x,s',h',M',h1,h2,G.trans h3,h4⟩) (hh A M a w R)
theorem AB.mono {c : Code} (hh : AB P N c Q s h) (hq : ∀ x s h,Q x s h → Q' x s h) : AB P N c Q' s h := fun A M0 M h0 w0 a w hN hM G R =>
 Code.wp_mono (fun e a' w' ⟨x,s',h',M',h1,h2,h3,h4⟩ => ⟨x,s',h',M',h1,hq _ _ _ h2,h3,h4⟩) (hh A M0 M h0 w0 a w hN hM G R)
theorem AB.skip (hq : Q .normal s h) : AB P N .skip Q s h := AB.of (AW.skip hq)
theorem AB.exit {id : Nat} (hq : Q (.exit id) s h) : AB P N (.exit id) Q s h := AB.of (AW.exit hq)
theorem AB.ret (hq : Q .ret s h) : AB P N .ret Q s h := AB.of (AW.ret hq)
theorem AB.seq {c d : Code} (hh : AB P N c (Ex.then (AB P N d Q) Q) s h) : AB P N (.seq c d) Q s h := by
 intro A M0 M h0 w0 a w hN hM G R
 refine wp_seq (Code.wp_mono (fun e a' w' ⟨x,s1,h1,M1,he,hq,G1,R1⟩ => ?_) (hh A M0 M h0 w0 a w hN hM G R))
 subst he
 cases x with
 | normal => exact hq A M0 M1 h0 w0 a' w' hN hM G1 R1
 | exit id => exact ⟨.exit id,s1,h1,M1,rfl,hq,G1,R1⟩
 | ret => exact ⟨.ret,s1,h1,M1,rfl,hq,G1,R1⟩
theorem AB.cond {c : Operand} {x y : Code} {t : Bool} (hc : ev s c = some (.sc (.bool t))) (h1 : t = true → AB P N x Q s h) (h2 : t = false → AB P N y Q s h) : AB P N (.cond c x y) Q s h := by
 intro A M0 M h0 w0 a w hN hM G R
 have hv := bR R.hr.glob R.sr hc
 unfold VR at hv
 refine wp_cond hv ?_
 cases t with
 | true => exact h1 rfl A M0 M h0 w0 a w hN hM G R
 | false => exact h2 rfl A M0 M h0 w0 a w hN hM G R
theorem AB.block {id : Nat} {c : Code} (hh : AB P N c (Ex.inBlock id Q) s h) : AB P N (.block id c) Q s h := by
 intro A M0 M h0 w0 a w hN hM G R
 refine wp_block (Code.wp_mono (fun e a' w' ⟨x,s1,h1,M1,he,hq,G,R1⟩ => ?_) (hh A M0 M h0 w0 a w hN hM G R))
 subst he
 cases x with
 | normal => exact ⟨.normal,s1,h1,M1,rfl,hq,G,R1⟩
 | exit i =>
  show Exit.inBlock id _ (.exit i) a' w'
  simp only [Exit.inBlock]
  simp only [Ex.inBlock] at hq
  split
  ·rename_i hi; rw [if_pos hi] at hq; exact ⟨.normal,s1,h1,M1,rfl,hq,G,R1⟩
  ·rename_i hi; rw [if_neg hi] at hq; exact ⟨.exit i,s1,h1,M1,rfl,hq,G,R1⟩
 | ret => exact ⟨.ret,s1,h1,M1,rfl,hq,G,R1⟩
theorem AB.loop {c : Code} (I : Nat → List V → Hp → Prop) {n : Nat} (h0 : I n s h) (round : ∀ n s h,I n s h → AB P N c (Ex.then (fun s' h' => ∃ m,m < n ∧ I m s' h') Q) s h) : AB P N (.loop c) Q s h := by
 intro A M0 M hh0 w0 a w hN hM G R
 let p : Act → World → Nat → Prop := fun a' w' k => ∃ s' h' M',I k s' h' ∧ Grow A M0 hh0 w0 M' h' w' ∧ Rel A M' s' h' a' w'
 let μ : Act → World → Nat := fun a' w' => Classical.epsilon fun k => p a' w' k ∧ ∀ j,p a' w' j → k ≤ j
 have hμ : ∀ a' w',(∃ k,p a' w' k) → p a' w' (μ a' w') ∧ ∀ j,p a' w' j → μ a' w' ≤ j := fun a' w' hh => Classical.epsilon_spec (dS hh)
 refine wp_loop (fun a' w' => ∃ k,p a' w' k) μ ⟨n,s,h,M,h0,G,R⟩ ?_
 intro a1 w1 hI
 obtain ⟨s1,h1,M1,hIk,G1,R1⟩ := (hμ a1 w1 hI).1
 refine Code.wp_mono (fun e a2 w2 ⟨x,s2,h2,M2,he,hq,G2,R2⟩ => ?_) (round _ s1 h1 hIk A M0 M1 hh0 w0 a1 w1 hN hM G1 R1)
 subst he
 cases x with
 | normal =>
  obtain ⟨m,hm,hIm⟩ := hq
  have hex2 : p a2 w2 m := ⟨s2,h2,M2,hIm,G2,R2⟩
  exact ⟨⟨m,hex2⟩,Nat.lt_of_le_of_lt ((hμ a2 w2 ⟨m,hex2⟩).2 m hex2) hm⟩
 | exit id => exact ⟨.exit id,s2,h2,M2,rfl,hq,G2,R2⟩
 | ret => exact ⟨.ret,s2,h2,M2,rfl,hq,G2,R2⟩
theorem AB.loopN {c : Code} (I : Nat → List V → Hp → Prop) {n : Nat} (h0 : I n s h) (r0 : ∀ s h,¬ I 0 s h) (round : ∀ n s h,I (n + 1) s h → AB P N c (Ex.then (I n) Q) s h) : AB P N (.loop c) Q s h := by
 refine AB.loop I h0 fun n s h hI => ?_
 cases n with
 | zero => exact absurd hI (r0 s h)
 | succ n =>
  refine (round n s h hI).mono fun x s h hq => ?_
  cases x with
  | normal => exact ⟨n,Nat.lt_succ_self n,hq⟩
  | exit id => exact hq
  | ret => exact hq
end
mutual
def V.le (vn : Nat → Bool) : V → V → Prop
 | x,.any => True
 | .row a k es,.row b k' es' => (b = none ∨ a = b) ∧ es = es' ∧ (k = k' ∨ es = [])
 | .row a _ es,.sl b off n _ _ => a = some true ∧ es = [] ∧ vn b = true ∧ off = 0 ∧ n = 0
 | .agg cs,.agg ds => V.les vn cs ds
 | .tup cs,.tup ds => V.les vn cs ds
 | x,y => x = y
def V.les (vn : Nat → Bool) : List V → List V → Prop
 | [],[] => True
 | c :: cs,d :: ds => V.le vn c d ∧ V.les vn cs ds
 | _,_ => False
end
def v9 : Nat → Bool := fun _ => false
mutual
theorem V.le_refl (vn : Nat → Bool) : ∀ x : V,V.le vn x x
 | .any => by unfold V.le; trivial
 | .row a k es => by unfold V.le; exact ⟨.inr rfl,rfl,.inl rfl⟩
 | .agg cs => by unfold V.le; exact V.les_refl vn cs
 | .tup cs => by unfold V.le; exact V.les_refl vn cs
 | .sc _ => by unfold V.le; rfl
 | .ptr _ _ => by unfold V.le; rfl
 | .sl _ _ _ _ _ => by unfold V.le; rfl
 | .eptr _ _ _ => by unfold V.le; rfl
 | .mp _ => by unfold V.le; rfl
theorem V.les_refl (vn : Nat → Bool) : ∀ cs : List V,V.les vn cs cs
 | [] => by unfold V.les; trivial
 | c :: cs => by unfold V.les; exact ⟨V.le_refl vn c,V.les_refl vn cs⟩
end
theorem V.le_nil {vn : Nat → Bool} {a : Option Bool} {k k' : Nat} : V.le vn (.row a k []) (.row none k' []) := by unfold V.le; exact ⟨.inl rfl,rfl,.inr rfl⟩
theorem V.le_virt {vn : Nat → Bool} {k k' b : Nat} {ag : Bool} (hb : vn b = true) : V.le vn (.row (some true) k []) (.sl b 0 0 k' ag) := by unfold V.le; exact ⟨rfl,rfl,hb,rfl,rfl⟩
section
variable {X : Nat → Prop} {M : List (Option Nat)} {w : World} {vn : Nat → Bool}
mutual
theorem V.le_sound (hvn : ∀ b,vn b = true → M[b]? = some none) : ∀ (x y : V) (v : Value),V.le vn x y → VR X M w x v → VR X M w y v
 | x,.any,v,_,_ => by unfold VR; trivial
 | .row a k es,.row b k' es',v,h,hv => by
  unfold V.le at h
  obtain ⟨h1,rfl,h3⟩ := h
  unfold VR at hv ⊢
  obtain ⟨ad,cap,e1,e2,e3,e4,e5,e6⟩ := hv
  refine ⟨ad,cap,e1,e2,e3, ?_, ?_, ?_⟩
  ·rcases h1 with rfl | rfl
   ·intro b hb; cases hb
   ·exact e4
  ·rcases h3 with rfl | rfl
   ·exact e5
   ·simp
  ·rcases h3 with rfl | rfl
   ·exact e6
   ·exact fun hne => absurd rfl hne
 | .row a k es,.sl b off n k' ag,v,h,hv => by
  unfold V.le at h
  obtain ⟨rfl,rfl,h3,rfl,rfl⟩ := h
  unfold VR at hv ⊢
  obtain ⟨ad,cap,e1,e2,e3,e4,e5,e6⟩ := hv
  have hn : ad = none := e4 true rfl
  cases ad with
  | some ad => simp at hn
  | none =>
   have := e3 rfl
   subst this
   exact .inl ⟨hvn b h3,e1,rfl,rfl⟩
 | .agg cs,.agg ds,v,h,hv => by
  unfold V.le at h
  unfold VR at hv ⊢
  obtain ⟨vs,e1,e2⟩ := hv
  exact ⟨vs,e1,V.les_sound hvn cs ds vs h e2⟩
 | .tup cs,.tup ds,v,h,hv => by
  unfold V.le at h
  unfold VR at hv ⊢
  obtain ⟨vs,e1,e2⟩ := hv
  exact ⟨vs,e1,V.les_sound hvn cs ds vs h e2⟩
 | .sc c,y,v,h,hv => by
  cases y <;> first | (unfold VR; trivial) | (unfold V.le at h; injection h with h; subst h; exact hv) | (unfold V.le at h; cases h)
 | .mp _,y,v,h,hv => by
  cases y <;> first | (unfold VR; trivial) | (unfold V.le at h; injection h with h; subst h; exact hv) | (unfold V.le at h; cases h)
 | .ptr _ _,y,v,h,hv => by
  cases y <;> first | (unfold VR; trivial) | (unfold V.le at h; injection h with h1 h2; subst h1 h2; exact hv) | (unfold V.le at h; cases h)
 | .sl _ _ _ _ _,y,v,h,hv => by
  cases y <;> first | (unfold VR; trivial) | (unfold V.le at h; injection h with h1 h2 h3 h4 h5; subst h1 h2 h3 h4 h5; exact hv) | (unfold V.le at h; cases h)
 | .eptr _ _ _,y,v,h,hv => by
  cases y <;> first | (unfold VR; trivial) | (unfold V.le at h; injection h with h1 h2 h3; subst h1 h2 h3; exact hv) | (unfold V.le at h; cases h)
theorem V.les_sound (hvn : ∀ b,vn b = true → M[b]? = some none) : ∀ (cs ds : List V) (vs : List Value),V.les vn cs ds → VCells X M w cs vs → VCells X M w ds vs
 | [],[],vs,_,hv => hv
 | c :: cs,d :: ds,vs,h,hv => by
  unfold V.les at h
  unfold VCells at hv ⊢
  obtain ⟨v,rest,e1,e2,e3⟩ := hv
  exact ⟨v,rest,e1,V.le_sound hvn c d v h.1 e2,V.les_sound hvn cs ds rest h.2 e3⟩
end
end
def Ghost (N : Nat) (s : List V) (h : Hp) (s' : List V) (h' : Hp) : Prop :=
 ∀ (A : Nat → Prop) (M : List (Option Nat)) (a : Act) (w : World),N ≤ M.length → Rel A M s h a w →
  ∃ M',M'.take N = M.take N ∧ Rel A M' s' h' a w ∧ ∀ g,dA M' h' g → dA M h g
theorem AB.ghost {P : Program} {N : Nat} {c : Code} {Q : Ex → List V → Hp → Prop} {s s' : List V} {h h' : Hp} (hg : Ghost N s h s' h') (hh : AB P N c Q s' h') : AB P N c Q s h := by
 intro A M0 M h0 w0 a w hN hM G R
 obtain ⟨t,ht⟩ := G.pre
 have hle : N ≤ M.length := by rw [← ht]; simp [hM]
 obtain ⟨M',h1,h2,h3⟩ := hg A M a w hle R
 refine hh A M0 M' h0 w0 a w hN hM ⟨?_,h2.hr,G.ext,fun g hg hl => G.live g hg (h3 g hl)⟩ h2
 have : M0 = M'.take N := by rw [h1,← ht,← hM]; simp
 rw [this]
 exact List.take_prefix _ _
def FLe (vn : Nat → Bool) (g : V → V) (fr : List (Nat × V)) : List (Nat × V) → Prop
 | [] => True
 | (t,y) :: r => (∃ x,fL fr t = some x ∧ V.le vn x (g y)) ∧ FLe vn g fr r
theorem FLe.nil {vn : Nat → Bool} {g : V → V} {fr : List (Nat × V)} : FLe vn g fr [] := trivial
theorem FLe.same {vn : Nat → Bool} {g : V → V} {fr r : List (Nat × V)} {t : Nat} {y : V} (h : fL fr t = some (g y)) (k : FLe vn g fr r) : FLe vn g fr ((t,y) :: r) := ⟨⟨_,h,V.le_refl _ _⟩,k⟩
theorem FLe.le {vn : Nat → Bool} {g : V → V} {fr r : List (Nat × V)} {t : Nat} {x y : V} (h : fL fr t = some x) (hl : V.le vn x (g y)) (k : FLe vn g fr r) : FLe vn g fr ((t,y) :: r) := ⟨⟨_,h,hl⟩,k⟩
theorem FLe.get {vn : Nat → Bool} {g : V → V} {fr : List (Nat × V)} : ∀ {fr' : List (Nat × V)},FLe vn g fr fr' → ∀ {t : Nat} {y : V},fL fr' t = some y → ∃ x,fL fr t = some x ∧ V.le vn x (g y)
 | [],_,t,y,hy => by cases hy
 | (u,z) :: r,h,t,y,hy => by
  simp only [fL] at hy
  cases hb : Nat.beq u t with
  | true =>
   rw [hb] at hy
   have := Nat.eq_of_beq_eq_true hb
   subst this
   simp only [cond_true,Option.some.injEq] at hy
   subst hy
   exact h.1
  | false => rw [hb] at hy; exact h.2.get hy
theorem aCP {X : Nat → Prop} {M M' : List (Option Nat)} {w : World} {n : Nat} {fr fr' : List (Nat × V)} {a : Act} {X' : Nat → Prop} (S : SR X M w (aE n fr) a)
  (hh : ∀ (t : Nat) (y : V),fL fr' t = some y → ∃ x,fL fr t = some x ∧ ∀ v,VR X M w x v → VR X' M' w y v) : SR X' M' w (aE n fr') a := by
 refine ⟨by rw [tB,← S.len,tB],fun t y hy => ?_⟩
 have ht : t < n := by have := (List.getElem?_eq_some_iff.1 hy).1; rw [tB] at this; exact this
 rw [zI ht] at hy
 injection hy with hy
 cases hl : fL fr' t with
 | none => rw [hl] at hy; subst hy; unfold VR; trivial
 | some z =>
  rw [hl] at hy
  subst hy
  obtain ⟨x,hx,hv⟩ := hh t z hl
  exact hv _ (S.val t x (by rw [zI ht,hx]; rfl))
def HLe (f : Nat → Nat) (h : Hp) : List Nat → Hp → Prop
 | [],[] => True
 | _ :: σ,none :: h' => HLe f h σ h'
 | b :: σ,some B' :: h' => (∃ B,h[b]? = some (some B) ∧ B.e = B'.e ∧ V.les v9 B.cells (V.rns f B'.cells) ∧ B'.cells.all V.one = true) ∧ HLe f h σ h'
 | _,_ => False
theorem HLe.nil {f : Nat → Nat} {h : Hp} : HLe f h [] [] := trivial
theorem HLe.dead {f : Nat → Nat} {h h' : Hp} {b : Nat} {σ : List Nat} (k : HLe f h σ h') : HLe f h (b :: σ) (none :: h') := k
theorem HLe.live {f : Nat → Nat} {h h' : Hp} {b : Nat} {σ : List Nat} {e : TypeId} {cs cs' : List V} (hb : h[b]? = some (some ⟨e,cs⟩)) (hc : V.les v9 cs (V.rns f cs')) (ho : cs'.all V.one = true) (k : HLe f h σ h') : HLe f h (b :: σ) (some ⟨e,cs'⟩ :: h') := ⟨⟨_,hb,rfl,hc,ho⟩,k⟩
theorem HLe.get {f : Nat → Nat} {h : Hp} : ∀ {σ : List Nat} {h' : Hp},HLe f h σ h' → ∀ {j : Nat} {B' : Blk},h'[j]? = some (some B') → ∃ b B,σ[j]? = some b ∧ h[b]? = some (some B) ∧ B.e = B'.e ∧ V.les v9 B.cells (V.rns f B'.cells) ∧ B'.cells.all V.one = true
 | [],[],_,j,B',hj => by simp at hj
 | b :: σ,none :: h',hh,j,B',hj => by
  cases j with
  | zero => simp at hj
  | succ j => simp only [List.getElem?_cons_succ] at hj ⊢; exact HLe.get (σ := σ) hh hj
 | b :: σ,some B :: h',hh,j,B',hj => by
  cases j with
  | zero =>
   simp only [List.getElem?_cons_zero,Option.some.injEq] at hj
   subst hj
   obtain ⟨C,h1,h2,h3,h4⟩ := hh.1
   exact ⟨b,C,rfl,h1,h2,h3,h4⟩
  | succ j => simp only [List.getElem?_cons_succ] at hj ⊢; exact HLe.get (σ := σ) hh.2 hj
 | [],_ :: _,hh,_,_,_ => hh.elim
 | _ :: _,[],hh,_,_,_ => hh.elim
theorem HLe.len {f : Nat → Nat} {h : Hp} : ∀ {σ : List Nat} {h' : Hp},HLe f h σ h' → σ.length = h'.length
 | [],[],_ => rfl
 | b :: σ,none :: h',hh => by simp [HLe.len (σ := σ) hh]
 | b :: σ,some B :: h',hh => by simp [HLe.len (σ := σ) hh.2]
 | [],_ :: _,hh => hh.elim
 | _ :: _,[],hh => hh.elim
def lvs : List Nat → Hp → List Nat
 | b :: σ,some _ :: h' => b :: lvs σ h'
 | _ :: σ,none :: h' => lvs σ h'
 | _,_ => []
theorem aCL : ∀ {σ : List Nat} {h' : Hp} {j b : Nat} {B : Blk},h'[j]? = some (some B) → σ[j]? = some b → b ∈ lvs σ h'
 | [],_,j,b,B,_,hb => by simp at hb
 | _ :: _,[],j,b,B,hj,_ => by simp at hj
 | c :: σ,some C :: h',0,b,B,hj,hb => by simp at hb; simp [lvs,hb]
 | c :: σ,some C :: h',j + 1,b,B,hj,hb => by
  simp only [List.getElem?_cons_succ] at hj hb
  simp [lvs,aCL hj hb]
 | c :: σ,none :: h',0,b,B,hj,hb => by simp at hj
 | c :: σ,none :: h',j + 1,b,B,hj,hb => by
  simp only [List.getElem?_cons_succ] at hj hb
  simp [lvs,aCL hj hb]
theorem aFg : ∀ {σ : List Nat} {h' : Hp},(lvs σ h').Nodup → ∀ {i j b : Nat} {B C : Blk},h'[i]? = some (some B) → h'[j]? = some (some C) → σ[i]? = some b → σ[j]? = some b → i = j
 | [],_,_,i,j,b,B,C,_,_,hb,_ => by simp at hb
 | _ :: _,[],_,i,j,b,B,C,hi,_,_,_ => by simp at hi
 | c :: σ,some D :: h',hn,0,0,b,B,C,_,_,_,_ => rfl
 | c :: σ,some D :: h',hn,0,j + 1,b,B,C,hi,hj,bi,bj => by
  simp only [List.getElem?_cons_succ,List.getElem?_cons_zero,Option.some.injEq] at hj bi bj
  subst bi
  exact absurd (aCL hj bj) (List.nodup_cons.1 hn).1
 | c :: σ,some D :: h',hn,i + 1,0,b,B,C,hi,hj,bi,bj => by
  simp only [List.getElem?_cons_succ,List.getElem?_cons_zero,Option.some.injEq] at hi bi bj
  subst bj
  exact absurd (aCL hi bi) (List.nodup_cons.1 hn).1
 | c :: σ,some D :: h',hn,i + 1,j + 1,b,B,C,hi,hj,bi,bj => by
  simp only [List.getElem?_cons_succ] at hi hj bi bj
  rw [aFg (List.nodup_cons.1 hn).2 hi hj bi bj]
 | c :: σ,none :: h',hn,0,_,b,B,C,hi,_,_,_ => by simp at hi
 | c :: σ,none :: h',hn,i + 1,0,b,B,C,_,hj,_,_ => by simp at hj
 | c :: σ,none :: h',hn,i + 1,j + 1,b,B,C,hi,hj,bi,bj => by
  simp only [List.getElem?_cons_succ] at hi hj bi bj
  rw [aFg (σ := σ) hn hi hj bi bj]
def ndB : List Nat → Bool
 | [] => true
 | b :: l => !(l.elem b) && ndB l
theorem aFn : ∀ {l : List Nat},ndB l = true → l.Nodup
 | [],_ => List.nodup_nil
 | b :: l,h => by
  simp only [ndB,Bool.and_eq_true,Bool.not_eq_true'] at h
  refine List.nodup_cons.2 ⟨fun hm => ?_,aFn h.2⟩
  rw [List.elem_eq_true_of_mem hm] at h
  cases h.1
theorem aOc {ρ : List Nat} {L i b : Nat} (h : ρ[i]? = some b) : sg ρ L i = b := by simp [sg,h]
theorem aN8 {ρ : List Nat} {L i : Nat} (h : ρ.length ≤ i) : sg ρ L i = L + (i - ρ.length) := by simp [sg,h]
theorem V.les_length {vn : Nat → Bool} : ∀ {cs ds : List V},V.les vn cs ds → cs.length = ds.length
 | [],[],_ => rfl
 | c :: cs,d :: ds,h => by unfold V.les at h; simp [V.les_length h.2]
 | [],_ :: _,h => by unfold V.les at h; exact h.elim
 | _ :: _,[],h => by unfold V.les at h; exact h.elim
theorem Ghost.rn {N n : Nat} {fr fr' : List (Nat × V)} {h h' : Hp} (σ : List Nat) (hσ : σ.take N = List.range N) (hlt : σ.all (fun b => Nat.blt b h.length) = true) (hf : FLe v9 (V.rn (sg σ h.length)) fr fr')
  (hh : HLe (sg σ h.length) h σ h') (hnd : ndB (lvs σ h') = true) : Ghost N (aE n fr) h (aE n fr') h' := by
 intro A M a w hN R
 have hM : M.length = h.length := R.hr.len
 have hltb : ∀ b ∈ σ,b < M.length := fun b hb => by
  have h2 := List.all_eq_true.1 hlt b hb
  rw [hM]; exact Nat.le_of_ble_eq_true (n := b + 1) h2
 let M' : List (Option Nat) := σ.map fun b => (M[b]?).getD none
 have hM' : ∀ {j b : Nat},σ[j]? = some b → M'[j]? = M[b]? := by
  intro j b hj
  have hb := hltb b (List.mem_of_getElem? hj)
  simp only [M',List.getElem?_map,hj,Option.map_some]
  rw [List.getElem?_eq_getElem hb]; rfl
 have hfrom : ∀ b y,M[sg σ h.length b]? = some y → M'[b]? = some y := by
  intro b y hy
  rcases Nat.lt_or_ge b σ.length with hl | hl
  ·have hi : σ[b]? = some σ[b] := List.getElem?_eq_getElem hl
   rw [hM' hi]; rw [aOc hi] at hy; exact hy
  ·rw [aN8 hl] at hy
   have := (List.getElem?_eq_some_iff.1 hy).1
   omega
 have hlive : ∀ g,dA M' h' g → dA M h g := by
  rintro g ⟨j,B',hj,hm⟩
  obtain ⟨b,B,h1,h2,_⟩ := hh.get hj
  exact ⟨b,B,h2,by rw [← hM' h1]; exact hm⟩
 have hX : ∀ g,Xs A M' h' g → Xs A M h g := fun g hx => hx.elim .inl (fun hl => .inr (hlive g hl))
 refine ⟨M', ?_,⟨⟨by simp [M',hh.len],R.hr.alt, ?_, ?_,R.hr.glob.avoid fun g _ hx => hX g hx⟩, ?_,R.defers⟩,hlive⟩
 ·simp only [M',← List.map_take,hσ]
  apply List.ext_getElem?
  intro i
  rw [List.getElem?_map,List.getElem?_take]
  rcases Nat.lt_or_ge i N with hi | hi
  ·simp only [List.getElem?_range hi,Option.map_some,hi,if_true]
   rw [List.getElem?_eq_getElem (Nat.lt_of_lt_of_le hi hN)]; rfl
  ·have : ¬ i < N := by omega
   simp [this]
 ·intro j B' hj
  obtain ⟨b,B,h1,h2,h3,h4,h5⟩ := hh.get hj
  refine ⟨List.all_eq_true.1 h5, ?_⟩
  have hlen : B.cells.length = B'.cells.length := by rw [V.les_length h4,V.rns_length]
  rcases (R.hr.blk b B h2).2 with ⟨hn,hc0⟩ | ⟨g,cs,hg,hA,hw,hle,hcs⟩
  ·refine .inl ⟨by rw [hM' h1]; exact hn,List.eq_nil_of_length_eq_zero (by rw [← hlen,hc0]; rfl)⟩
  ·refine .inr ⟨g,cs,by rw [hM' h1]; exact hg,hA,by rw [← h3,← hlen]; exact hw,by rw [← hlen]; exact hle, ?_⟩
   rw [← hlen]
   exact (VCells.rn_from hfrom _ _ (V.les_sound (fun _ hb => by cases hb) _ _ _ h4 hcs)).avoid (fun g _ hx => hX g hx)
 ·intro i j B C g hi hj mi mj
  obtain ⟨b,B1,h1,h2,_⟩ := hh.get hi
  obtain ⟨c,C1,k1,k2,_⟩ := hh.get hj
  have := R.hr.inj b c B1 C1 g h2 k2 (by rw [← hM' h1]; exact mi) (by rw [← hM' k1]; exact mj)
  subst this
  exact aFg (aFn hnd) hi hj h1 k1
 ·exact aCP R.sr (fun t y hy => by
   obtain ⟨x,hx,hl⟩ := hf.get hy
   exact ⟨x,hx,fun v hv => (VR.rn_from hfrom _ _ (V.le_sound (fun _ hb => by cases hb) _ _ _ hl hv)).avoid (fun g _ hx => hX g hx)⟩)
def HLv (vn : Nat → Bool) : Hp → Hp → Prop
 | [],[] => True
 | none :: h,none :: h' => HLv vn h h'
 | some B :: h,some B' :: h' => (B.e = B'.e ∧ V.les vn B.cells B'.cells ∧ B'.cells.all V.one = true) ∧ HLv vn h h'
 | _,_ => False
theorem HLv.nil {vn : Nat → Bool} : HLv vn [] [] := trivial
theorem HLv.dead {vn : Nat → Bool} {h h' : Hp} (k : HLv vn h h') : HLv vn (none :: h) (none :: h') := k
theorem HLv.live {vn : Nat → Bool} {h h' : Hp} {e : TypeId} {cs cs' : List V} (hc : V.les vn cs cs') (ho : cs'.all V.one = true) (k : HLv vn h h') : HLv vn (some ⟨e,cs⟩ :: h) (some ⟨e,cs'⟩ :: h') := ⟨⟨rfl,hc,ho⟩,k⟩
theorem HLv.get {vn : Nat → Bool} : ∀ {h h' : Hp},HLv vn h h' → ∀ {j : Nat} {B' : Blk},h'[j]? = some (some B') → ∃ B,h[j]? = some (some B) ∧ B.e = B'.e ∧ V.les vn B.cells B'.cells ∧ B'.cells.all V.one = true
 | [],[],_,j,B',hj => by simp at hj
 | none :: h,none :: h',hh,j,B',hj => by
  cases j with
  | zero => simp at hj
  | succ j => simp only [List.getElem?_cons_succ] at hj ⊢; exact HLv.get (h := h) hh hj
 | some B :: h,some C :: h',hh,j,B',hj => by
  cases j with
  | zero =>
   simp only [List.getElem?_cons_zero,Option.some.injEq] at hj
   subst hj
   exact ⟨B,rfl,hh.1.1,hh.1.2.1,hh.1.2.2⟩
  | succ j => simp only [List.getElem?_cons_succ] at hj ⊢; exact HLv.get (h := h) hh.2 hj
 | [],_ :: _,hh,_,_,_ => hh.elim
 | none :: _,[],hh,_,_,_ => hh.elim
 | some _ :: _,[],hh,_,_,_ => hh.elim
 | none :: _,some _ :: _,hh,_,_,_ => hh.elim
 | some _ :: _,none :: _,hh,_,_,_ => hh.elim
theorem HLv.len {vn : Nat → Bool} : ∀ {h h' : Hp},HLv vn h h' → h.length = h'.length
 | [],[],_ => rfl
 | none :: h,none :: h',hh => by simp [HLv.len (h := h) hh]
 | some B :: h,some C :: h',hh => by simp [HLv.len (h := h) hh.2]
 | [],_ :: _,hh => hh.elim
 | none :: _,[],hh => hh.elim
 | some _ :: _,[],hh => hh.elim
 | none :: _,some _ :: _,hh => hh.elim
 | some _ :: _,none :: _,hh => hh.elim
theorem Ghost.virt {N n : Nat} {fr fr' : List (Nat × V)} {h h1 : Hp} (e : TypeId) (hf : FLe (fun b => Nat.beq b h.length) id fr fr') (hh : HLv (fun b => Nat.beq b h.length) h h1)
  : Ghost N (aE n fr) h (aE n fr') (h1 ++ [some ⟨e,[]⟩]) := by
 intro A M a w hN R
 have hM : M.length = h.length := R.hr.len
 have G := Grow.virt R.hr e
 have hvn : ∀ b,Nat.beq b h.length = true → (M ++ [none])[b]? = some none := fun b hb => by
  have := Nat.eq_of_beq_eq_true hb
  subst this
  rw [← hM]; simp
 have hlen : h1.length = h.length := hh.len.symm
 have hcase : ∀ {b : Nat} {B : Blk},(h1 ++ [some ⟨e,[]⟩])[b]? = some (some B) → ∃ C,(h ++ [some ⟨e,[]⟩])[b]? = some (some C) ∧ C.e = B.e ∧ V.les (fun b => Nat.beq b h.length) C.cells B.cells ∧ B.cells.all V.one = true := by
  intro b B hb
  rcases dP hb with hb | ⟨hbl,hB⟩
  ·obtain ⟨C,c1,c2,c3,c4⟩ := hh.get hb
   exact ⟨C,jG c1,c2,c3,c4⟩
  ·injection hB with hB
   subst hB
   exact ⟨⟨e,[]⟩,by rw [hbl,hlen]; simp,rfl,V.les_refl _ _,rfl⟩
 have hlive' : ∀ g,dA (M ++ [none]) (h1 ++ [some ⟨e,[]⟩]) g → dA (M ++ [none]) (h ++ [some ⟨e,[]⟩]) g := by
  rintro g ⟨b,B,hb,hm⟩
  obtain ⟨C,c1,_⟩ := hcase hb
  exact ⟨b,C,c1,hm⟩
 have hlive : ∀ g,dA (M ++ [none]) (h1 ++ [some ⟨e,[]⟩]) g → dA M h g := by
  rintro g hl
  obtain ⟨b,B,hb,hm⟩ := hlive' g hl
  rcases dP hm with hm' | ⟨_,hm'⟩
  ·rcases dP hb with hb' | ⟨rfl,_⟩
   ·exact ⟨b,B,hb',hm'⟩
   ·have := (List.getElem?_eq_some_iff.1 hm').1; omega
  ·cases hm'
 refine ⟨M ++ [none],by rw [List.take_append_of_le_length hN],⟨⟨by simp [hM,hlen],R.hr.alt, ?_, ?_,R.hr.glob.avoid fun g _ hx => hx.elim .inl (fun hl => .inr (hlive g hl))⟩, ?_,R.defers⟩,hlive⟩
 ·intro b B hb
  obtain ⟨C,c1,c2,c3,c4⟩ := hcase hb
  refine ⟨List.all_eq_true.1 c4, ?_⟩
  have hl := V.les_length c3
  rcases (G.hr.blk b C c1).2 with ⟨hn,hc0⟩ | ⟨g,cs,hg,hA,hw,hle,hcs⟩
  ·exact .inl ⟨hn,List.eq_nil_of_length_eq_zero (by rw [← hl,hc0]; rfl)⟩
  ·refine .inr ⟨g,cs,hg,hA,by rw [← c2,← hl]; exact hw,by rw [← hl]; exact hle, ?_⟩
   rw [← hl]
   exact (V.les_sound hvn _ _ _ c3 hcs).avoid (fun g _ hx => hx.elim .inl (fun hl => .inr (hlive' g hl)))
 ·intro b b' B B' g hb hb' hm hm'
  obtain ⟨C,c1,_⟩ := hcase hb
  obtain ⟨C',c1',_⟩ := hcase hb'
  exact G.hr.inj b b' C C' g c1 c1' hm hm'
 ·exact aCP R.sr (fun t y hy => by
   obtain ⟨x,hx,hl⟩ := hf.get hy
   exact ⟨x,hx,fun v hv => (V.le_sound hvn _ _ _ hl (G.keep hv)).avoid (fun g _ hx => hx.elim .inl (fun hl => .inr (hlive' g hl)))⟩)
theorem Ghost.trans {N : Nat} {s s1 s2 : List V} {h h1 h2 : Hp} (a : Ghost N s h s1 h1) (b : Ghost N s1 h1 s2 h2) : Ghost N s h s2 h2 := by
 intro A M ac w hN R
 obtain ⟨M1,e1,R1,l1⟩ := a A M ac w hN R
 have hN1 : N ≤ M1.length := by
  have := congrArg List.length e1
  simp only [List.length_take] at this; omega
 obtain ⟨M2,e2,R2,l2⟩ := b A M1 ac w hN1 R1
 exact ⟨M2,e2.trans e1,R2,fun g hg => l1 g (l2 g hg)⟩
abbrev eI (k : IntKind) (x : Int) : V := .sc (.int k x)
abbrev eB (x : Bool) : V := .sc (.bool x)
abbrev eS (x : ByteArray) : V := .sc (.string x)
abbrev eL {α : Type} (K : Nat) (E : α → V) (l : List α) : V := .row none K (l.map E)
def bS {α : Type} (l : List α) (i : Int) : Option α := if 0 ≤ i then l[i.toNat]? else none
def sub {α : Type} (l : List α) (a b : Int) : Option (List α) := if 0 ≤ a ∧ a ≤ b ∧ b ≤ l.length then some ((l.take b.toNat).drop a.toNat) else none
def eZ {α : Type} (by_ : Nat) (l m : List α) : Option (List α) := if (l.length + m.length) * by_ ≤ lE then some (l ++ m) else none
def mks {α : Type} (by_ : Nat) (z : α) (n : Int) : Option (List α) := if 0 ≤ n ∧ n.toNat * by_ ≤ lE then some (List.replicate n.toNat z) else none
def j9 {α : Type} (l m : List α) : List α := m.take l.length ++ l.drop m.length
def quo (k : IntKind) (a b : Int) : Option Int := if b = 0 then none else some (k.wrap (a.tdiv b))
def rem (a b : Int) : Option Int := if b = 0 then none else some (a.tmod b)
def shl (k : IntKind) (a b : Int) : Option Int := if b < 0 then none else some (k.wrap (a * 2 ^ (min b.toNat k.bits)))
def shr (k : IntKind) (a b : Int) : Option Int := if b < 0 then none else some (a.fdiv (2 ^ (min b.toNat k.bits)))
inductive LR (σ ρ : Type) where
 | brk (s : σ)
 | ret (r : ρ)
theorem aA {α β : Type} {o : Option α} {k : α → Option β} {r : β} (h : o.bind k = some r) : ∃ v,o = some v ∧ k v = some r := by
 cases o with
 | none => cases h
 | some v => exact ⟨v,rfl,h⟩
theorem cV {α : Type} {c : Bool} {a b : Option α} {r : α} (h : (if c = true then a else b) = some r) (hc : c = true) : a = some r := by subst hc; exact h
theorem cU {α : Type} {c : Bool} {a b : Option α} {r : α} (h : (if c = true then a else b) = some r) (hc : c = false) : b = some r := by subst hc; exact h
section
variable {P : Program} {O : tD} {ops : Array Oper} {l : List Oper} {n : Nat} {fr : List (Nat × V)} {h h' : Hp} {K : List V → Hp → Prop} {op : Op} {ty : TypeId} {pos : String} {aft : Array Edge} {t : Nat} {v : V} {gd : Option (Nat × Bool)}
variable {o : Oper}
theorem aFC {j u : Nat} {want c : Bool} (hg : o.guard = some (j,want)) (hj : (ops[j]?).bind (·.dst) = some u) (hl : bI n fr (.tmp u) = some (.sc (.bool c))) : jS ops o (aE n fr) = some (c == want) := by
 have := cJ hl
 simp only [ev] at this
 unfold jS
 rw [hg]
 simp only [hj,this,yV]
 cases c <;> cases want <;> rfl
variable {j u : Nat} {want c : Bool} {dd : Option Tmp}
theorem sv (hd : bF P O ⟨dd,op,ty,pos,aft,none⟩ (aE n fr) h = some (v,h')) : b7 P O ops ⟨dd,op,ty,pos,aft,none⟩ (aE n fr) h = some (v,h') := by simp only [b7,jS]; exact hd
theorem svG (hj : (ops[j]?).bind (·.dst) = some u) (hl : bI n fr (.tmp u) = some (.sc (.bool c))) (hc : c = want) (hd : bF P O ⟨dd,op,ty,pos,aft,some (j,want)⟩ (aE n fr) h = some (v,h')) : b7 P O ops ⟨dd,op,ty,pos,aft,some (j,want)⟩ (aE n fr) h = some (v,h') := by
 subst hc
 simp only [b7,aFC (o := ⟨dd,op,ty,pos,aft,some (j,c)⟩) rfl hj hl,beq_self_eq_true]
 exact hd
theorem svX (hj : (ops[j]?).bind (·.dst) = some u) (hl : bI n fr (.tmp u) = some (.sc (.bool c))) (hc : c = !want) : b7 P O ops ⟨dd,op,ty,pos,aft,some (j,want)⟩ (aE n fr) h = some (.sc undef,h) := by
 subst hc
 simp only [b7,aFC (o := ⟨dd,op,ty,pos,aft,some (j,want)⟩) rfl hj hl]
 cases want <;> rfl
theorem svU (hj : (ops[j]?).bind (·.dst) = some u) (hl : bI n fr (.tmp u) = some (.sc undef)) : b7 P O ops ⟨dd,op,ty,pos,aft,some (j,want)⟩ (aE n fr) h = some (.sc undef,h) := by
 have := cJ hl
 simp only [ev] at this
 have hw : jS ops ⟨dd,op,ty,pos,aft,some (j,want)⟩ (aE n fr) = some false := by
  unfold jS
  simp only [hj,this]
  cases want <;> rfl
 simp only [b7,hw]
def OpsW (P : Program) (N : Nat) (ops : Array Oper) (l : List Oper) (s : List V) (h : Hp) (K : List V → Hp → Prop) : Prop :=
 ∀ (k : Nat),(∀ j,l[j]? = ops[k + j]?) → ∀ (A : Nat → Prop) (M0 M : List (Option Nat)) (h0 : Hp) (w0 : World) (a : Act) (w : World) (Q : Exit → Act → World → Prop),h0.length = N → M0.length = N → Grow A M0 h0 w0 M h w → Rel A M s h a w →
  (∀ s' h' M' a' w',K s' h' → Grow A M0 h0 w0 M' h' w' → Rel A M' s' h' a' w' → Q .normal a' w') → wpOps P ops Q (List.range' k l.length) a w
variable {N : Nat} {s s' : List V}
theorem OpsW.nil (hk : K s h) : OpsW P N ops [] s h K := fun k _ A M0 M h0 w0 a w Q _ _ G R hQ => by
 simp only [List.length_nil,List.range'_zero,wpOps]
 exact hQ s h M a w hk G R
theorem OpsW.cons (hO : aAs P O) (hs : b7 P O ops o s h = some (v,h')) (hk : OpsW P N ops l (jJ s o.dst v) h' K) : OpsW P N ops (o :: l) s h K := fun k hl A M0 M h0 w0 a w Q hN hM G R hQ => by
 have h0' : ops[k]? = some o := by simpa using (hl 0).symm
 simp only [List.length_cons,List.range'_succ]
 rw [wpOps_cons]
 refine aBx hO R h0' (s' := jJ s o.dst v) (h' := h') (by rw [d6,hs]; rfl) fun a' w' M' G' R' => ?_
 exact hk (k + 1) (fun j => by have := hl (j + 1); simpa [Nat.add_assoc,Nat.add_comm 1 j] using this) A M0 M' h0 w0 a' w' Q hN hM (G.trans G') R' hQ
theorem OpsW.ghost (hg : Ghost N s h s' h') (hk : OpsW P N ops l s' h' K) : OpsW P N ops l s h K := fun k hl A M0 M h0 w0 a w Q hN hM G R hQ => by
 obtain ⟨t,ht⟩ := G.pre
 have hle : N ≤ M.length := by rw [← ht]; simp [hM]
 obtain ⟨M',h1,h2,h3⟩ := hg A M a w hle R
 refine hk k hl A M0 M' h0 w0 a w Q hN hM ⟨?_,h2.hr,G.ext,fun g hg hl => G.live g hg (h3 g hl)⟩ h2 hQ
 have : M0 = M'.take N := by rw [h1,← ht,← hM]; simp
 rw [this]
 exact List.take_prefix _ _
theorem aGk : aAs P (fun _ _ _ => none) := fun _ _ _ _ _ hh => by cases hh
abbrev O0 : tD := fun _ _ _ => none
theorem wS (hs : b7 P O0 ops ⟨some t,op,ty,pos,aft,gd⟩ (aE n fr) h = some (v,h')) (k : OpsW P N ops l (aE n ((t,v) :: fr)) h' K) : OpsW P N ops (⟨some t,op,ty,pos,aft,gd⟩ :: l) (aE n fr) h K :=
 OpsW.cons aGk hs (by dsimp only; rw [aDj]; exact k)
theorem wN (hs : b7 P O0 ops ⟨none,op,ty,pos,aft,gd⟩ (aE n fr) h = some (v,h')) (k : OpsW P N ops l (aE n fr) h' K) : OpsW P N ops (⟨none,op,ty,pos,aft,gd⟩ :: l) (aE n fr) h K :=
 OpsW.cons aGk hs k
open Classical in
noncomputable def aBB (f : FuncId) (h : Hp) (xs : List V) (r : V) (h' : Hp) : tD := fun k h1 xs1 => if k = f ∧ h1 = h ∧ xs1 = xs then some (r,h') else none
theorem aEF {f : FuncId} {xs : List V} {r : V} (hc : Fn P f h xs r h') : aAs P (aBB f h xs r h') := fun k h1 xs1 r1 h2 hh => by
 unfold aBB at hh
 split at hh
 ·rename_i he
  obtain ⟨rfl,rfl,rfl⟩ := he
  simp only [Option.some.injEq,Prod.mk.injEq] at hh
  obtain ⟨rfl,rfl⟩ := hh
  exact hc
 ·cases hh
theorem sP {f : FuncId} {xs : List V} {r : V} : aBB f h xs r h' f h xs = some (r,h') := by simp [aBB]
theorem AB.rw {Q : Ex → List V → Hp → Prop} {id : Nat} (hr : OpsW P N l.toArray l s h (Q .normal)) : AB P N (.region id l.toArray false) Q s h := by
 intro A M0 M h0 w0 a w hN hM G R
 refine wp_region ?_
 have := hr 0 (fun j => by simp) A M0 M h0 w0 a w (fun e a' w' => ∃ x s' h' M',e = Ex.toExit x ∧ Q x s' h' ∧ Grow A M0 h0 w0 M' h' w' ∧ Rel A M' s' h' a' w') hN hM G R (fun s' h' M' a' w' hk G' R' => ⟨.normal,s',h',M',rfl,hk,G',R'⟩)
 rw [List.range_eq_range']
 simpa using this
variable {d : Option Tmp} {g : Option (Nat × Bool)} {x y z : Operand} {a b : V}
theorem j8 (hx : bI n fr x = some a) : bF P O ⟨d,.move x,ty,pos,aft,g⟩ (aE n fr) h = some (a,h) := by simp [bF,cJ hx]
theorem pY (hx : bI n fr x = some a) : bF P O ⟨d,.assign x,ty,pos,aft,g⟩ (aE n fr) h = some (a,h) := by simp [bF,cJ hx]
theorem aMm {c : Bool} (hz : bI n fr z = some (.sc (.bool c))) (hc : c = true) (hx : bI n fr x = some a) : bF P O ⟨d,.pick z x y,ty,pos,aft,g⟩ (aE n fr) h = some (a,h) := by subst hc; simp [bF,cJ hx,cJ hz]
theorem aMg {c : Bool} (hz : bI n fr z = some (.sc (.bool c))) (hc : c = false) (hy : bI n fr y = some a) : bF P O ⟨d,.pick z x y,ty,pos,aft,g⟩ (aE n fr) h = some (a,h) := by subst hc; simp [bF,cJ hy,cJ hz]
theorem xE {bo : BinOp} {t u : TypeId} (hx : bI n fr x = some a) (hy : bI n fr y = some b) (hv : dR P bo t x y a b = some v) : bF P O ⟨d,.binOp bo t x y u,ty,pos,aft,g⟩ (aE n fr) h = some (v,h) := by simp [bF,cJ hx,cJ hy,hv]
theorem aGP {uo : UnOp} {t : TypeId} (hx : bI n fr x = some a) (hv : unV P uo a = some v) : bF P O ⟨d,.unOp uo t x,ty,pos,aft,g⟩ (aE n fr) h = some (v,h) := by simp [bF,cJ hx,hv]
theorem f6 {t u : TypeId} (hx : bI n fr x = some a) (hv : uZ P h t u a = some v) : bF P O ⟨d,.convert t u x,ty,pos,aft,g⟩ (aE n fr) h = some (v,h) := by simp [bF,cJ hx,hv]
theorem aN5 {e : TypeId} {i : Nat} (hx : bI n fr x = some a) (ho : a.flatOk = true) (hl : h.length = i) (hh : h ++ [some ⟨e,a.cells⟩] = h') : bF P O ⟨d,.box e x,ty,pos,aft,g⟩ (aE n fr) h = some (.ptr i 0,h') := by
 subst hl hh; simp [bF,cJ hx,aGt,ho]
theorem iC {e : TypeId} {i : Nat} {ti : TI} (ht : aN P e = some ti) (ho : (ti.zero.cells.toList.map dO).all V.one = true) (hl : h.length = i) (hh : h ++ [some ⟨e,ti.zero.cells.toList.map dO⟩] = h') : bF P O ⟨d,.alloc e,ty,pos,aft,g⟩ (aE n fr) h = some (.ptr i 0,h') := by
 subst hl hh
 simp only [bF,aCj,ht]
 rw [if_pos ho]
theorem bO {t : TypeId} (hx : bI n fr x = some a) (hv : d9 P t h a = some v) : bF P O ⟨d,.load t x,ty,pos,aft,g⟩ (aE n fr) h = some (v,h) := by simp [bF,cJ hx,hv]
theorem aY {t : TypeId} (hx : bI n fr x = some a) (hy : bI n fr y = some b) (hv : qL P t h a b = some h') : bF P O ⟨d,.store t x y,ty,pos,aft,g⟩ (aE n fr) h = some (.sc undef,h') := by simp [bF,cJ hx,cJ hy,hv]
theorem aNk {i o : Nat} (hx : bI n fr x = some (.ptr i o)) : bF P O ⟨d,.nilCheck x,ty,pos,aft,g⟩ (aE n fr) h = some (.ptr i o,h) := by simp [bF,cJ hx,pU]
theorem lI {t : TypeId} {f : Nat} (hx : bI n fr x = some a) (hv : aU P t a f = some v) : bF P O ⟨d,.fieldAddr t x f,ty,pos,aft,g⟩ (aE n fr) h = some (v,h) := by simp [bF,cJ hx,hv]
theorem yS {t : TypeId} (hx : bI n fr x = some a) (hy : bI n fr y = some b) (hv : f5 P t a b = some v) : bF P O ⟨d,.indexAddr t x y,ty,pos,aft,g⟩ (aE n fr) h = some (v,h) := by simp [bF,cJ hx,cJ hy,hv]
theorem aKb {t : TypeId} (hx : bI n fr x = some a) (hy : bI n fr y = some b) (hv : vC P t a b = some v) : bF P O ⟨d,.index t x y,ty,pos,aft,g⟩ (aE n fr) h = some (v,h) := by simp [bF,cJ hx,cJ hy,hv]
theorem aCC {i : Nat} {vs : List V} (hx : bI n fr x = some (.tup vs)) (hv : vs[i]? = some v) : bF P O ⟨d,.extract x i,ty,pos,aft,g⟩ (aE n fr) h = some (v,h) := by simp [bF,cJ hx,aBa,hv]
theorem aK8 {t : TypeId} (hx : bI n fr x = some a) (hy : bI n fr y = some b) (hv : y9 P t a b h = some (v,h')) : bF P O ⟨d,.makeSlice t x y,ty,pos,aft,g⟩ (aE n fr) h = some (v,h') := by simp [bF,cJ hx,cJ hy,hv]
def pC (n : Nat) (fr : List (Nat × V)) : List Operand → Option (List V)
 | [] => some []
 | o :: os => match bI n fr o,pC n fr os with
  | some x,some xs => some (x :: xs)
  | _,_ => none
theorem aAa : ∀ {os : List Operand} {xs : List V},pC n fr os = some xs → wA (aE n fr) os = some xs
 | [],xs,hh => by simp only [pC,Option.some.injEq] at hh; subst hh; rfl
 | o :: os,xs,hh => by
  simp only [pC] at hh
  split at hh
  ·rename_i x ys h1 h2
   injection hh with hh
   subst hh
   simp only [wA,List.mapM_cons,cJ h1,Option.bind_eq_bind,Option.bind_some,Option.pure_def]
   have := aAa h2
   unfold wA at this
   rw [this]; rfl
  ·cases hh
def aAV (n : Nat) (fr : List (Nat × V)) : List (Nat × Operand) → Option (List (Nat × V))
 | [] => some []
 | p :: ps => match bI n fr p.2,aAV n fr ps with
  | some x,some xs => some ((p.1,x) :: xs)
  | _,_ => none
theorem aCB : ∀ {ps : List (Nat × Operand)} {xs : List (Nat × V)},aAV n fr ps = some xs → tT (aE n fr) ps = some xs
 | [],xs,hh => by simp only [aAV,Option.some.injEq] at hh; subst hh; rfl
 | p :: ps,xs,hh => by
  simp only [aAV] at hh
  split at hh
  ·rename_i x ys h1 h2
   injection hh with hh
   subst hh
   simp only [tT,List.mapM_cons,cJ h1,Option.bind_eq_bind,Option.bind_some,Option.pure_def,Option.map_some]
   have := aCB h2
   unfold tT at this
   rw [this]; rfl
  ·cases hh
def aLc (n : Nat) (fr : List (Nat × V)) : Operand → Option V
 | .const (.slice none 0 0) => some (.row none 1 [])
 | o => (bI n fr o).map V.softA
theorem aMA {o : Operand} {x : V} (hh : aLc n fr o = some x) : evB (aE n fr) o = some x := by
 unfold aLc at hh
 split at hh
 ·exact hh
 ·rename_i hne
  simp only [Option.map_eq_some_iff] at hh
  obtain ⟨z,hz,rfl⟩ := hh
  have h2 := cJ hz
  unfold evB
  split
  ·exact (hne rfl).elim
  ·rw [h2]; rfl
def sR (n : Nat) (fr : List (Nat × V)) : List (Nat × Operand) → Option (List (Nat × V))
 | [] => some []
 | p :: ps => match aLc n fr p.2,sR n fr ps with
  | some x,some xs => some ((p.1,x) :: xs)
  | _,_ => none
theorem aBM : ∀ {ps : List (Nat × Operand)} {xs : List (Nat × V)},sR n fr ps = some xs → vM (aE n fr) ps = some xs
 | [],xs,hh => by simp only [sR,Option.some.injEq] at hh; subst hh; rfl
 | p :: ps,xs,hh => by
  simp only [sR] at hh
  split at hh
  ·rename_i x ys h1 h2
   injection hh with hh
   subst hh
   simp only [vM,List.mapM_cons,aMA h1,Option.bind_eq_bind,Option.bind_some,Option.pure_def,Option.map_some]
   have := aBM h2
   unfold vM at this
   rw [this]; rfl
  ·cases hh
theorem cF {t : TypeId} {ps : List (Nat × Operand)} {xs : List (Nat × V)} (hp : aAV n fr ps = some xs) (hv : sI P t xs = some v) : bF P O ⟨d,.build t ps.toArray,ty,pos,aft,g⟩ (aE n fr) h = some (v,h) := by
 simp [bF,aCB hp,hv]
theorem qF {t : TypeId} {len : Nat} {ps : List (Nat × Operand)} {xs : List (Nat × V)} (hp : sR n fr ps = some xs) (hv : iI P t len xs h = some (v,h')) : bF P O ⟨d,.buildSlice t len ps.toArray,ty,pos,aft,g⟩ (aE n fr) h = some (v,h') := by
 simp [bF,aBM hp,hv]
def aCt (n : Nat) (fr : List (Nat × V)) : Option Operand → Option (Option V)
 | none => some none
 | some o => match bI n fr o with
  | some x => some (some x)
  | none => none
theorem aDl {o : Option Operand} {x : Option V} (hh : aCt n fr o = some x) : o4 (aE n fr) o = some x := by
 cases o with
 | none => exact hh
 | some o =>
  simp only [aCt] at hh
  split at hh
  ·rename_i y hy; injection hh with hh; subst hh; simp [o4,cJ hy]
  ·cases hh
theorem b5 {t : TypeId} {lo hi : Option Operand} {vl vh : Option V} (hx : bI n fr x = some a) (h1 : aCt n fr lo = some vl) (h2 : aCt n fr hi = some vh) (hv : iX P t h a vl vh = some v) : bF P O ⟨d,.slice t x lo hi none,ty,pos,aft,g⟩ (aE n fr) h = some (v,h) := by
 simp [bF,cJ hx,aDl h1,aDl h2,hv]
theorem aKD {t : TypeId} {lo : Option Operand} {hi mx : Operand} {vl : Option V} {vh vm : V} (hx : bI n fr x = some a) (h1 : aCt n fr lo = some vl) (h2 : bI n fr hi = some vh) (h3 : bI n fr mx = some vm) (hv : wD P t a vl vh vm = some v) : bF P O ⟨d,.slice t x lo (some hi) (some mx),ty,pos,aft,g⟩ (aE n fr) h = some (v,h) := by
 simp [bF,cJ hx,aDl h1,cJ h2,cJ h3,hv]
variable {ws : List Operand} {ts : List TypeId} {xs : List V}
theorem aLy {t : TypeId} (hx : bI n fr x = some a) (hv : aCc P t a = some v) : bF P O ⟨d,.call ⟨.builtin .len,#[x],#[t]⟩,ty,pos,aft,g⟩ (aE n fr) h = some (v,h) := by
 have : wA (aE n fr) [x] = some [a] := aAa (by simp [pC,hx])
 simp [bF,sT,this,hv]
theorem aAl {t t' : TypeId} (hx : bI n fr x = some a) (hy : bI n fr y = some b) (hv : jR P t t' a b h = some (v,h')) : bF P O ⟨d,.call ⟨.builtin .append,#[x,y],#[t,t']⟩,ty,pos,aft,g⟩ (aE n fr) h = some (v,h') := by
 have : wA (aE n fr) [x,y] = some [a,b] := aAa (by simp [pC,hx,hy])
 simp [bF,sT,this,hv]
theorem aAP {t t' : TypeId} (hx : bI n fr x = some a) (hy : bI n fr y = some b) (hv : aCR P t a b h = some (v,h')) : bF P O ⟨d,.call ⟨.builtin .copy,#[x,y],#[t,t']⟩,ty,pos,aft,g⟩ (aE n fr) h = some (v,h') := by
 have : wA (aE n fr) [x,y] = some [a,b] := aAa (by simp [pC,hx,hy])
 simp [bF,sT,this,hv]
theorem mW {f : FuncId} {ts : Array TypeId} (hx : pC n fr ws = some xs) (hv : O f h xs = some (v,h')) : bF P O ⟨d,.call ⟨.value (.func f),ws.toArray,ts⟩,ty,pos,aft,g⟩ (aE n fr) h = some (v,h') := by
 simp [bF,sT,aAa hx,hv]
theorem wC {N : Nat} {f : FuncId} {ts : Array TypeId} {K : List V → Hp → Prop} {l : List Oper} (hx : pC n fr ws = some xs) (hc : Fn P f h xs v h') (k : OpsW P N ops l (aE n ((t,v) :: fr)) h' K) : OpsW P N ops (⟨some t,.call ⟨.value (.func f),ws.toArray,ts⟩,ty,pos,aft,none⟩ :: l) (aE n fr) h K :=
 OpsW.cons (aEF hc) (sv (mW hx sP)) (by dsimp only; rw [aDj]; exact k)
theorem wCG {N : Nat} {f : FuncId} {ts : Array TypeId} {K : List V → Hp → Prop} {l : List Oper} {j u : Nat} {want c : Bool} (hj : (ops[j]?).bind (·.dst) = some u) (hl : bI n fr (.tmp u) = some (.sc (.bool c))) (hcw : c = want) (hx : pC n fr ws = some xs) (hc : Fn P f h xs v h') (k : OpsW P N ops l (aE n ((t,v) :: fr)) h' K) : OpsW P N ops (⟨some t,.call ⟨.value (.func f),ws.toArray,ts⟩,ty,pos,aft,some (j,want)⟩ :: l) (aE n fr) h K :=
 OpsW.cons (aEF hc) (svG hj hl hcw (mW hx sP)) (by dsimp only; rw [aDj]; exact k)
end
section
variable {P : Program} {h h' : Hp} {t e : TypeId} {ti : TI} {B : Blk} {i off : Nat} {v x : V} {cs : List V}
theorem nV (ht : aN P t = some ti) (hd : cB ti.desc = false) (hc : cs.head? = some v) : fY P t cs = some v := by simp [fY,ht,hd,hc]
theorem aAp (ht : aN P t = some ti) (hd : cB ti.desc = true) {ds : List V} (hl : ti.size ≤ cs.length) (hc : cs.take ti.size = ds) : fY P t cs = some (.agg ds) := by simp [fY,ht,hd,hl,hc]
theorem ldP (hb : h[i]? = some (some ⟨e,cs⟩)) (hp : fY P t (cs.drop off) = some v) : d9 P t h (.ptr i off) = some v := by simp [d9,hb,hp]
theorem ldE {α : Type} {E : α → V} {l : List α} {y : α} (hi : l[i]? = some y) (hp : fY P t ((E y).cells.drop off) = some v) : d9 P t h (.eptr (l.map E) i off) = some v := by simp [d9,hi,hp]
theorem fU (ht : aN P t = some ti) (hb : h[i]? = some (some ⟨e,cs⟩)) (h1 : x.flatOk = true) (h2 : x.cells.length = ti.size) (h3 : off + ti.size ≤ cs.length) (h4 : h.set i (some ⟨e,splice cs off x.cells⟩) = h') : qL P t h (.ptr i off) x = some h' := by
 subst h4
 simp only [qL,ht,hb]
 rw [if_pos ⟨h1,h2,h3⟩]
theorem aAO {fs : Array Field} {sz by_ : Nat} {z : Value} {pl : Array (Nat × Nat)} {ps : List (Nat × V)} (ht : aN P t = some ⟨.struct fs,sz,by_,z⟩) (hp : oN P t = some pl) (hf : mZ (fun i => pl[i]?) (z.cells.toList.map dO) ps = some cs) : sI P t ps = some (.agg cs) := by
 simp only [sI,ht,hp]
 rw [hf]; rfl
theorem lO {m : Nat} {sz by_ : Nat} {z : Value} {ps : List (Nat × V)} (ht : aN P t = some ⟨.array m e,sz,by_,z⟩) (he : aN P e = some ti) (hf : mZ (fun i => some (i * ti.size,ti.size)) (z.cells.toList.map dO) ps = some cs) : sI P t ps = some (.agg cs) := by
 simp only [sI,ht,he]
 rw [hf]; rfl
theorem aNz {sz by_ len : Nat} {z : Value} {ps : List (Nat × V)} {ag : Bool} (ht : aN P t = some ⟨.slice e,sz,by_,z⟩) (he : aN P e = some ti) (h1 : len * ti.size ≤ 2 ^ 24 ∧ 0 < len ∧ 0 < ti.size) (hag : cB ti.desc = ag)
  (hf : mZ (fun i => some (i * ti.size,ti.size)) (((Array.range (len * ti.size)).map (ti.zero.cells[· % ti.zero.cells.size]!)).toList.map dO) ps = some cs) (h2 : cs.all V.one = true ∧ cs.length = len * ti.size) (hl : h.length = i) (hh : h ++ [some ⟨e,cs⟩] = h') :
  iI P t len ps h = some (.sl i 0 len ti.size ag,h') := by
 subst hl hh hag
 simp only [iI,ht,he]
 rw [if_pos h1]
 simp only [hf]
 rw [if_pos h2]
end
section
variable {P : Program} {h h' : Hp} {t e : TypeId} {ti : TI} {i off b : Nat} {v : V} {α : Type} {E : α → V} {l m : List α} {y : α} {k : IntKind} {j : Int} {nl : Option Bool} {sz by_ : Nat} {z : Value} {ag : Bool}
theorem iR (hx : bS l j = some y) : 0 ≤ j ∧ j < l.length ∧ l[j.toNat]? = some y := by
 unfold bS at hx
 split at hx
 ·have := (List.getElem?_eq_some_iff.1 hx).1
  exact ⟨by assumption,by omega,hx⟩
 ·cases hx
theorem iaR (ht : aN P t = some ⟨.slice e,sz,by_,z⟩) (he : aN P e = some ti) (hx : bS l j = some y) : f5 P t (.row nl ti.size (l.map E)) (.sc (.int k j)) = some (.eptr (l.map E) j.toNat 0) := by
 obtain ⟨h1,h2,_⟩ := iR hx
 simp [f5,ht,nT,he,h1,h2]
theorem iaS {q : Nat} (hn : l.length = q) (ht : aN P t = some ⟨.slice e,sz,by_,z⟩) (he : aN P e = some ti) (h1 : ti.size = 1) (hx : bS l j = some y) : f5 P t (.sl b 0 q 1 ag) (.sc (.int k j)) = some (.ptr b j.toNat) := by
 obtain ⟨h2,h3,_⟩ := iR hx
 subst hn
 simp [f5,ht,nT,he,h1,h2,h3]
theorem ldX (ht : aN P t = some ti) (hd : cB ti.desc = false) (hb : h[b]? = some (some ⟨e,l.map E⟩)) (hx : bS l j = some y) : d9 P t h (.ptr b j.toNat) = some (E y) := by
 obtain ⟨_,_,h3⟩ := iR hx
 simp [d9,hb,fY,ht,hd,h3]
theorem ldR (hx : bS l j = some y) (hp : fY P t ((E y).cells.drop off) = some v) : d9 P t h (.eptr (l.map E) j.toNat off) = some v := ldE (iR hx).2.2 hp
theorem aDF (i : Nat) (hi : i < l.length) (y : α) : splice (l.map E) i [E y] = (l.set i y).map E := by
 rw [List.map_set]
 unfold splice
 apply List.ext_getElem?
 intro m
 rw [List.getElem?_set]
 by_cases hm : i = m
 ·subst hm
  simp [List.getElem?_append,hi,Nat.min_eq_left (Nat.le_of_lt hi)]
 ·rcases Nat.lt_or_ge m i with h1 | h1
  ·rw [List.getElem?_append_left (by simp; omega),List.getElem?_append_left (by simp; omega)]
   simp [hm,h1]
  ·rw [List.getElem?_append_right (by simp; omega)]
   simp only [List.length_append,List.length_take,List.length_map,List.length_cons,List.length_nil,List.getElem?_drop,hm,if_false]
   congr 1; omega
theorem aO6 {w : α} (ht : aN P t = some ti) (hs : ti.size = 1) (hb : h[b]? = some (some ⟨e,l.map E⟩)) (hx : bS l j = some w) (ho : (E y).one = true) (hc : (E y).cells = [E y]) (hh : h.set b (some ⟨e,(l.set j.toNat y).map E⟩) = h') : qL P t h (.ptr b j.toNat) (E y) = some h' := by
 obtain ⟨_,h2,h3⟩ := iR hx
 have h4 := (List.getElem?_eq_some_iff.1 h3).1
 subst hh
 simp only [qL,ht,hb]
 rw [if_pos ⟨by simp [V.flatOk,hc,ho],by simp [hc,hs],by rw [hs]; simp; omega⟩,hc,aDF _ h4]
theorem aCp : ∀ ns : List Int,p8 (ns.map (eI .u8)) = some ns
 | [] => rfl
 | n :: ns => by simp only [List.map_cons,eI,p8]; rw [show p8 (List.map (fun x => V.sc (Value.int IntKind.u8 x)) ns) = some ns from aCp ns]; rfl
theorem aGd {a b' : TypeId} {ns : List Int} {x : V} {sz1 by1 sz2 by2 sz3 by3 q : Nat} {z1 z2 z3 : Value} (ha : aN P a = some ⟨.slice e,sz1,by1,z1⟩) (hb : aN P b' = some ⟨.string,sz2,by2,z2⟩) (he : aN P e = some ⟨.int .u8,sz3,by3,z3⟩) (hs : fK h 1 x = some (ns.map (eI .u8),q)) : uZ P h a b' x = some (.sc (.string (nS ns))) := by
 simp only [uZ,n7,ha,hb,he,hs,aCp,Option.map_some]
theorem aOQ (ht : aN P t = some ⟨.slice e,sz,by_,z⟩) {k : Nat} : aCc P t (.row nl k (l.map E)) = some (.sc (.int .i64 l.length)) := by simp [aCc,ht]
theorem aOS (ht : aN P t = some ⟨.slice e,sz,by_,z⟩) {k m : Nat} : aCc P t (.sl b off m k ag) = some (.sc (.int .i64 m)) := by simp [aCc,ht]
theorem aPn {q : Nat} (hn : l.length = q) (ht : aN P t = some ⟨.slice e,sz,by_,z⟩) (he : aN P e = some ti) (h1 : ti.zero.cells.size = 1 ∧ ti.size = 1 ∧ 1 ≤ ti.bytes) (hb : h[b]? = some (some ⟨e,l.map E⟩)) {s : V} (hs : fK h 1 s = some (m.map E,m.length))
  {r : List α} (ha : eZ ti.bytes l m = some r) (hl : h.length = i) (hh : h.set b none ++ [some ⟨e,r.map E⟩] = h') : jR P t t (.sl b 0 q 1 ag) s h = some (.sl i 0 r.length 1 ag,h') := by
 obtain ⟨h2,h3,h4⟩ := h1
 subst hn
 unfold eZ at ha
 split at ha
 ·rename_i hlim
  injection ha with ha
  subst ha hl hh
  have hx : fK h ti.size s = some (m.map E,m.length) := by rw [h3]; exact hs
  simp only [jR,ne_eq,not_true,if_false,ht,he]
  rw [if_pos ⟨by rw [h2,h3],by omega,h4⟩]
  simp only [hx,hb]
  rw [if_pos ⟨h3.symm,trivial,by simp,hlim⟩]
  simp [List.take_of_length_le]
 ·cases ha
theorem aO5 (ht : aN P t = some ⟨.slice e,sz,by_,z⟩) (he : aN P e = some ti) (h1 : ti.zero.cells.size = 1 ∧ ti.size = 1 ∧ 1 ≤ ti.bytes) {s : V} (hs : fK h 1 s = some (m.map E,m.length)) (hag : cB ti.desc = ag) {kk : Nat}
  {r : List α} (ha : eZ ti.bytes [] m = some r) (hl : h.length + 1 = i) (hh : h ++ [none] ++ [some ⟨e,r.map E⟩] = h') : jR P t t (.row (some true) kk []) s h = some (.sl i 0 r.length 1 ag,h') := by
 obtain ⟨h2,h3,h4⟩ := h1
 unfold eZ at ha
 split at ha
 ·rename_i hlim
  injection ha with ha
  subst ha hl hh hag
  have hx : fK h ti.size s = some (m.map E,m.length) := by rw [h3]; exact hs
  simp only [jR,ne_eq,not_true,if_false,ht,he]
  rw [if_pos ⟨by rw [h2,h3],by omega,h4⟩]
  simp only [hx]
  rw [if_pos (by simpa using hlim)]
  simp [h3]
 ·cases ha
theorem aO0 (ht : aN P t = some ⟨.slice e,sz,by_,z⟩) (he : aN P e = some ti) (h1 : ti.zero.cells.size = 1 ∧ ti.size = 1 ∧ 1 ≤ ti.bytes) (hE : ∀ x,(E x).cells = [E x]) {s : V} (hs : fK h 1 s = some (m.map E,m.length)) (hm : 0 < m.length) (hag : cB ti.desc = ag)
  {r : List α} (ha : eZ ti.bytes l m = some r) (hl : h.length = i) (hh : h ++ [some ⟨e,r.map E⟩] = h') : jR P t t (.row (some false) 1 (l.map E)) s h = some (.sl i 0 r.length 1 ag,h') := by
 obtain ⟨h2,h3,h4⟩ := h1
 have hf : (l.map E).flatMap V.cells = l.map E := by
  clear ha
  induction l with
  | nil => rfl
  | cons x l ih => simp only [List.map_cons,List.flatMap_cons,hE,ih]; rfl
 unfold eZ at ha
 split at ha
 ·rename_i hlim
  injection ha with ha
  subst ha hl hh hag
  have hx : fK h ti.size s = some (m.map E,m.length) := by rw [h3]; exact hs
  simp only [jR,ne_eq,not_true,if_false,ht,he]
  rw [if_pos ⟨by rw [h2,h3],by omega,h4⟩]
  simp only [hx]
  rw [if_pos ⟨.inr h3.symm,hm,by simpa using hlim⟩]
  simp [h3,hf]
 ·cases ha
theorem aAJ (hE : ∀ x,(E x).cells = [E x]) : fK h 1 (.row nl 1 (m.map E)) = some (m.map E,m.length) := by
 have : (m.map E).flatMap V.cells = m.map E := by
  induction m with
  | nil => rfl
  | cons x m ih => simp only [List.map_cons,List.flatMap_cons,hE,ih]; rfl
 simp only [fK]
 rw [if_pos (.inl trivial),this]; simp
theorem aO2 {q : Nat} (hn : m.length = q) (hb : h[b]? = some (some ⟨e,m.map E⟩)) : fK h 1 (.sl b 0 q 1 ag) = some (m.map E,m.length) := by
 subst hn
 simp only [fK,hb]
 rw [if_pos ⟨trivial,by simp⟩]; simp [List.take_of_length_le]
theorem aOv {kk : Nat} : fK h 1 (.row nl kk []) = some (([] : List α).map E,([] : List α).length) := by simp [fK]
theorem aEH {q : Nat} {e2 : TypeId} (hn : l.length = q) (ht : aN P t = some ⟨.slice e,sz,by_,z⟩) (he : aN P e = some ti) (h1 : ti.size = 1) (hb : h[b]? = some (some ⟨e2,l.map E⟩)) {s : V} (hs : fK h 1 s = some (m.map E,m.length)) (hh : h.set b (some ⟨e2,(j9 l m).map E⟩) = h') :
  aCR P t (.sl b 0 q 1 ag) s h = some (.sc (.int .i64 (min m.length l.length : Nat)),h') := by
 subst hh hn
 simp only [aCR,ht,he,h1,hs,hb]
 rw [if_pos ⟨trivial,by omega,by simp⟩]
 simp only [Option.some.injEq,Prod.mk.injEq,true_and]
 congr 3
 unfold splice j9
 simp only [List.map_append,List.map_take,List.map_drop,List.take_zero,List.nil_append,Nat.zero_add,Nat.mul_one,List.length_take,List.length_map]
 congr 1
 ·rw [Nat.min_comm,← List.take_take,List.take_of_length_le (i := m.length) (by simp)]
 ·rcases Nat.le_total m.length l.length with hle | hle
  ·congr 1; omega
  ·rw [List.drop_eq_nil_of_le (by simp; omega),List.drop_eq_nil_of_le (by simp; omega)]
theorem qM (ht : aN P t = some ⟨.slice e,sz,by_,z⟩) (he : aN P e = some ti) {lo hi : Option V} {a c : Int} {r : List α} (h1 : lP lo = some a) (h2 : rP hi l.length = some c) (hs : sub l a c = some r) : iX P t h (.row nl ti.size (l.map E)) lo hi = some (.row (nlS nl) ti.size (r.map E)) := by
 unfold sub at hs
 split at hs
 ·rename_i hc
  injection hs with hs
  subst hs
  have h2' : rP hi (l.map E).length = some c := by simpa using h2
  simp only [iX,ht,he,h1,h2']
  rw [if_pos ⟨trivial,hc.1,hc.2.1,by simpa using hc.2.2⟩]
  simp [List.map_take,List.map_drop]
 ·cases hs
end
section
variable {P : Program} {t e : TypeId} {ti : TI} {sz by_ : Nat} {z : Value} {α : Type} {E : α → V} {l : List α} {nl : Option Bool}
theorem slM (ht : aN P t = some ⟨.slice e,sz,by_,z⟩) (he : aN P e = some ti) {lo : Option V} {a c : Int} {k1 k2 : IntKind} {r : List α} (h1 : lP lo = some a) (hs : sub l a c = some r) : wD P t (.row nl ti.size (l.map E)) lo (.sc (.int k1 c)) (.sc (.int k2 c)) = some (.row (some false) ti.size (r.map E)) := by
 unfold sub at hs
 split at hs
 ·rename_i hc
  injection hs with hs
  subst hs
  simp only [wD,ht,h1,nT,he]
  rw [if_pos ⟨trivial,hc.1,hc.2.1,trivial,by simpa using hc.2.2⟩]
  simp [List.map_take,List.map_drop]
 ·cases hs
end
section
variable (P : Program) (t : TypeId) (xo yo : Operand)
theorem aKX {k : IntKind} {a b r : Int} (h : quo k a b = some r) : dR P .quo t xo yo (.sc (.int k a)) (.sc (.int k b)) = some (.sc (.int k r)) := by
 rw [aLU]; unfold quo at h; split at h
 ·cases h
 ·rename_i hb; injection h with h; rw [if_neg hb,h]
theorem aK0 {k : IntKind} {a b r : Int} (h : rem a b = some r) : dR P .rem t xo yo (.sc (.int k a)) (.sc (.int k b)) = some (.sc (.int k r)) := by
 rw [aMv]; unfold rem at h; split at h
 ·cases h
 ·rename_i hb; injection h with h; rw [if_neg hb,h]
theorem aKY {k k' : IntKind} {a b r : Int} (h : shl k a b = some r) : dR P .shl t xo yo (.sc (.int k a)) (.sc (.int k' b)) = some (.sc (.int k r)) := by
 rw [aLX]; unfold shl at h; split at h
 ·cases h
 ·rename_i hb; injection h with h; rw [if_neg hb,h]
theorem aKq {k k' : IntKind} {a b r : Int} (h : shr k a b = some r) : dR P .shr t xo yo (.sc (.int k a)) (.sc (.int k' b)) = some (.sc (.int k r)) := by
 rw [aMd]; unfold shr at h; split at h
 ·cases h
 ·rename_i hb; injection h with h; rw [if_neg hb,h]
end
section
variable {P : Program} {N n : Nat} {Q : Ex → List V → Hp → Prop} {s : List V} {h h' : Hp} {fr : List (Nat × V)}
theorem AB.cnd {c : Operand} {x y : Code} {t : Bool} (hc : bI n fr c = some (.sc (.bool t))) (h1 : t = true → AB P N x Q (aE n fr) h) (h2 : t = false → AB P N y Q (aE n fr) h) : AB P N (.cond c x y) Q (aE n fr) h := AB.cond (cJ hc) h1 h2
def num : Nat → List V → List (Nat × V)
 | _,[] => []
 | i,x :: xs => (i,x) :: num (i + 1) xs
theorem aHv : ∀ {xs : List V} {i t : Nat} {y : V},fL (num i xs) t = some y → i ≤ t ∧ xs[t - i]? = some y
 | [],i,t,y,hy => by cases hy
 | x :: xs,i,t,y,hy => by
  simp only [num,fL] at hy
  cases hb : Nat.beq i t with
  | true =>
   rw [hb] at hy
   have := Nat.eq_of_beq_eq_true hb
   subst this
   simp only [cond_true,Option.some.injEq] at hy
   subst hy
   simp
  | false =>
   rw [hb] at hy
   obtain ⟨h1,h2⟩ := aHv (xs := xs) (i := i + 1) hy
   refine ⟨by omega, ?_⟩
   rw [show t - i = (t - (i + 1)) + 1 by omega]
   simpa using h2
def z4 (P : Program) (fn : Func) (N : Nat) (r : V) (h' : Hp) : Ex → List V → Hp → Prop := fun x s h => (∀ id,x ≠ .exit id) ∧ ∃ r1,wJ P fn s h = some r1 ∧ Ghost N (aE 1 [(0,r1)]) h (aE 1 [(0,r)]) h'
theorem aOq {f : FuncId} {fn : Func} {c : Code} {args : List V} {r : V} (hf : P.funcs[f]? = some fn) (hb : fn.body = some c) (hn : (fn.name == "runtime.NumGoroutine") = false) (hnt : fn.ntmps = n) (hal : args.length ≤ n) (hN : h.length = N) (hfr : num 0 args = fr)
  (hh : AB P N c (z4 P fn N r h') (aE n fr) h) : Fn P f h args r h' := by
 intro A M w vs H hargs
 refine .inl ⟨aFE hf (by rw [hb]; rfl) hn _ _,calls_of_wp hf hb ?_⟩
 have R0 := aJj (fn := fn) H hargs
 have R1 : Rel A M (aE n fr) h { tmps := vs.toArray ++ Array.replicate (fn.ntmps - vs.toArray.size) undef,defers := [] } w := by
  refine ⟨R0.hr,⟨?_,fun t x hx => ?_⟩,R0.defers⟩
  ·rw [tB,← R0.sr.len]
   simp [aCy,hnt]; omega
  ·have ht : t < n := by have := (List.getElem?_eq_some_iff.1 hx).1; rw [tB] at this; exact this
   rw [zI ht] at hx
   injection hx with hx
   cases hl : fL fr t with
   | none => rw [hl] at hx; subst hx; unfold VR; trivial
   | some z =>
    rw [hl] at hx
    subst hx hfr
    obtain ⟨_,h2⟩ := aHv hl
    refine R0.sr.val t z ?_
    unfold aCy
    rw [List.getElem?_append_left (by have := (List.getElem?_eq_some_iff.1 h2).1; omega)]
    simpa using h2
 refine Code.wp_mono (fun e a' w' ⟨x,s1,h1,M1,he,⟨hx,r1,hres,hg⟩,G,R2⟩ => ?_) (hh A M M h w _ w hN (by rw [H.len]; exact hN) (Grow.refl H) R1)
 subst he
 obtain ⟨t,ht⟩ := G.pre
 have hMN : M.length = N := by rw [H.len]; exact hN
 obtain ⟨v,hv,hr⟩ := aIv R2 hres
 have Rv : Rel A M1 (aE 1 [(0,r1)]) h1 { tmps := #[v],defers := [] } w' := ⟨R2.hr,⟨rfl,fun t x hx => by
  cases t with
  | zero => simp [aE,fL] at hx; subst hx; exact hr
  | succ t => rw [List.getElem?_eq_none (by rw [tB]; omega)] at hx; cases hx⟩,rfl⟩
 obtain ⟨M',e1,R3,l3⟩ := hg A M1 _ w' (by rw [← ht]; simp [hMN]) Rv
 have hr' : VR (Xs A M' h') M' w' r v := R3.sr.val 0 r rfl
 have G' : Grow A M h w M' h' w' := ⟨by
  have : M = M'.take N := by rw [e1,← ht,← hMN]; simp
  rw [this]
  exact List.take_prefix _ _,R3.hr,G.ext,fun g hg hl => G.live g hg (l3 g hl)⟩
 cases x with
 | normal => exact ⟨R2.defers,v,hv,v,rfl,M',G',hr'⟩
 | ret => exact ⟨R2.defers,v,hv,v,rfl,M',G',hr'⟩
 | exit id => exact absurd rfl (hx id)
theorem wB {fn : Func} {r r1 : V} (hr : wJ P fn s h = some r1) (hg : Ghost N (aE 1 [(0,r1)]) h (aE 1 [(0,r)]) h') : z4 P fn N r h' .ret s h := ⟨fun id hh => (by cases hh),r1,hr,hg⟩
theorem aJ0 {fn : Func} {r r1 : V} (hr : wJ P fn s h = some r1) (hg : Ghost N (aE 1 [(0,r1)]) h (aE 1 [(0,r)]) h') : z4 P fn N r h' .normal s h := ⟨fun id hh => (by cases hh),r1,hr,hg⟩
variable {fn : Func}
theorem rvT {t : Nat} {x : V} (hx : bI n fr (.tmp t) = some x) : kA P (aE n fr) h (.tmp t) = some x := cJ hx
theorem rvC {t : Nat} {ty : TypeId} {v : V} {i o : Nat} (hx : bI n fr (.tmp t) = some (.ptr i o)) (hv : d9 P ty h (.ptr i o) = some v) : kA P (aE n fr) h (.cell t ty) = some v := by
 have := cJ hx
 simp only [ev] at this
 simp [kA,this,pU,hv]
theorem aOu (hr : fn.results = #[]) : wJ P fn s h = some (.tup []) := by simp [wJ,hr]
theorem aNy {a : ResultVar} {x : V} (hr : fn.results = #[a]) (h1 : kA P s h a = some x) : wJ P fn s h = some x := by simp [wJ,hr,h1]
theorem a9 {a b : ResultVar} {x y : V} (hr : fn.results = #[a,b]) (h1 : kA P s h a = some x) (h2 : kA P s h b = some y) : wJ P fn s h = some (.tup [x,y]) := by simp [wJ,hr,h1,h2]
theorem tH {a b c : ResultVar} {x y z : V} (hr : fn.results = #[a,b,c]) (h1 : kA P s h a = some x) (h2 : kA P s h b = some y) (h3 : kA P s h c = some z) : wJ P fn s h = some (.tup [x,y,z]) := by simp [wJ,hr,h1,h2,h3]
end
theorem l6 {α : Type} {E : α → V} {f : Nat → Nat} (hE : ∀ x,(E x).rn f = E x) : ∀ l : List α,V.rns f (l.map E) = l.map E
 | [] => rfl
 | x :: l => by simp [V.rns,hE,l6 hE l]
theorem aA0 {α : Type} {E : α → V} {f : Nat → Nat} {vn : Nat → Bool} (hE : ∀ x,(E x).rn f = E x) (l : List α) : V.les vn (l.map E) (V.rns f (l.map E)) := by rw [l6 hE]; exact V.les_refl _ _
theorem V.les_nil {vn : Nat → Bool} : V.les vn [] [] := by unfold V.les; trivial
theorem V.les_cons {vn : Nat → Bool} {c d : V} {cs ds : List V} (h : V.le vn c d) (k : V.les vn cs ds) : V.les vn (c :: cs) (d :: ds) := by unfold V.les; exact ⟨h,k⟩
theorem bK {α : Type} (l : List α) (i : Nat) (x : α) : (l.set i x).length = l.length := List.length_set
theorem bJ {α : Type} (l m : List α) : (j9 l m).length = l.length := by simp [j9]; omega
section
variable {P : Program} {f : FuncId} {h hb hb' hs hs' : Hp} {xs args : List V} {r v : V}
theorem gL (h : Hp) (o : Hp) : dN h [] o = h := by cases h <;> cases o <;> rfl
theorem Fn.pure (hc : Fn P f [] xs r []) (hx : V.rns (sg [] h.length) xs = xs) (hr : r.rn (sg [] h.length) = r) : Fn P f h xs r h := by
 have := Fn.frame (hb := h) hc [] rfl (by simp) (by simp) (fun i b hi => by simp at hi)
 rw [hx,hr] at this
 simpa [iG,gL,m7] using this
def Lend (σ : Nat → Nat) (hb : Hp) : List Nat → Hp → Prop
 | [],[] => True
 | b :: ρ,none :: hs => hb[b]? = some none ∧ Lend σ hb ρ hs
 | b :: ρ,some B :: hs => (∃ cs,hb[b]? = some (some ⟨B.e,cs⟩) ∧ V.rns σ B.cells = cs) ∧ Lend σ hb ρ hs
 | _,_ => False
theorem Lend.nil {σ : Nat → Nat} : Lend σ hb [] [] := trivial
theorem Lend.cons {σ : Nat → Nat} {b : Nat} {ρ : List Nat} {e : TypeId} {cs ds : List V} (h1 : hb[b]? = some (some ⟨e,ds⟩)) (h2 : V.rns σ cs = ds) (k : Lend σ hb ρ hs) : Lend σ hb (b :: ρ) (some ⟨e,cs⟩ :: hs) := ⟨⟨ds,h1,h2⟩,k⟩
theorem Lend.len {σ : Nat → Nat} : ∀ {ρ : List Nat} {hs : Hp},Lend σ hb ρ hs → ρ.length = hs.length
 | [],[],_ => rfl
 | _ :: ρ,none :: hs,hh => by simp [Lend.len (ρ := ρ) hh.2]
 | _ :: ρ,some B :: hs,hh => by simp [Lend.len (ρ := ρ) hh.2]
 | [],_ :: _,hh => hh.elim
 | _ :: _,[],hh => hh.elim
theorem Lend.get {σ : Nat → Nat} : ∀ {ρ : List Nat} {hs : Hp},Lend σ hb ρ hs → ∀ (i b : Nat),ρ[i]? = some b → hb[b]? = (m7 σ hs)[i]?
 | [],[],_,i,b,hi => by simp at hi
 | c :: ρ,none :: hs,hh,0,b,hi => by simp at hi; subst hi; simpa [m7] using hh.1
 | c :: ρ,none :: hs,hh,i + 1,b,hi => by
  have := Lend.get hh.2 i b (by simpa using hi)
  simpa [m7] using this
 | c :: ρ,some B :: hs,hh,0,b,hi => by
  simp at hi; subst hi
  obtain ⟨cs,h1,h2⟩ := hh.1
  rw [h1,← h2]; simp [m7,Blk.rn]
 | c :: ρ,some B :: hs,hh,i + 1,b,hi => by
  have := Lend.get hh.2 i b (by simpa using hi)
  simpa [m7] using this
 | [],_ :: _,hh,_,_,_ => hh.elim
 | _ :: _,[],hh,_,_,_ => hh.elim
theorem Fn.lendB (hc : Fn P f hs args r hs') (ρ : List Nat) (hnd : ρ.Nodup) (hlt : ρ.all (fun b => Nat.blt b hb.length) = true) (hl : Lend (sg ρ hb.length) hb ρ hs) (hx : V.rns (sg ρ hb.length) args = xs) (hr : r.rn (sg ρ hb.length) = v) (hh : iG hb ρ hs' = hb') : Fn P f hb xs v hb' := by
 have := Fn.frame (hb := hb) hc ρ hl.len hnd (fun b hb' => by
  have h2 := List.all_eq_true.1 hlt b hb'
  exact Nat.le_of_ble_eq_true (n := b + 1) h2) hl.get
 rw [hx,hr,hh] at this
 exact this
theorem aJF {X : Nat → Prop} {M : List (Option Nat)} {w : World} {vs : List Value} (hl : V.les v9 xs args) (hv : VCells X M w xs vs) : VCells X M w args vs := V.les_sound (fun _ hb => by cases hb) _ _ _ hl hv
theorem Fn.argsLe (hc : Fn P f h args r hb) (hl : V.les v9 xs args) : Fn P f h xs r hb := fun A M w vs H hv => hc A M w vs H (aJF hl hv)
end
@[simp] theorem g7 {f : Nat → Nat} {k : IntKind} (l : List Int) : V.rns f (l.map (eI k)) = l.map (eI k) := l6 (fun _ => rfl) l
@[simp] theorem gZ {f : Nat → Nat} (l : List Bool) : V.rns f (l.map eB) = l.map eB := l6 (fun _ => rfl) l
@[simp] theorem sL {f : Nat → Nat} (l : List ByteArray) : V.rns f (l.map eS) = l.map eS := l6 (fun _ => rfl) l
@[simp] theorem r6 {α : Type} {f : Nat → Nat} {K : Nat} {E : α → V} (l : List (List α)) : V.rns f (l.map (eL K E)) = l.map (eL K E) := l6 (fun _ => rfl) l
theorem all_map {α : Type} {E : α → V} (hE : ∀ x,(E x).one = true) (l : List α) : (l.map E).all V.one = true := by simp [List.all_eq_true,hE]
mutual
def V.rf : V → Bool
 | .sc _ => true
 | .row _ _ es => es.isEmpty
 | .ptr _ _ => true
 | .mp _ => true
 | .sl _ _ _ _ _ => true
 | .agg cs => V.rfs cs
 | .tup cs => V.rfs cs
 | .eptr _ _ _ => false
 | .any => true
def V.rfs : List V → Bool
 | [] => true
 | c :: cs => c.rf && V.rfs cs
end
section
variable {X X' : Nat → Prop} {M : List (Option Nat)} {w : World}
mutual
theorem VR.rf : ∀ (x : V) (v : Value),x.rf = true → VR X M w x v → VR X' M w x v
 | .sc _,v,_,h => by unfold VR at h ⊢; exact h
 | .any,v,_,_ => by unfold VR; trivial
 | .row nil k es,v,hr,h => by
  unfold V.rf at hr
  have : es = [] := by simpa using hr
  subst this
  unfold VR at h ⊢
  obtain ⟨a,cap,h1,h2,h3,h4,h5,h6⟩ := h
  exact ⟨a,cap,h1,h2,h3,h4,h5,fun hne => absurd rfl hne⟩
 | .ptr _ _,v,_,h => by unfold VR at h ⊢; exact h
 | .mp _,v,_,h => by unfold VR at h ⊢; exact h
 | .sl _ _ _ _ _,v,_,h => by unfold VR at h ⊢; exact h
 | .agg cs,v,hr,h => by
  unfold V.rf at hr
  unfold VR at h ⊢
  obtain ⟨vs,h1,h2⟩ := h
  exact ⟨vs,h1,VCells.rf cs vs hr h2⟩
 | .tup cs,v,hr,h => by
  unfold V.rf at hr
  unfold VR at h ⊢
  obtain ⟨vs,h1,h2⟩ := h
  exact ⟨vs,h1,VCells.rf cs vs hr h2⟩
 | .eptr _ _ _,v,hr,_ => by unfold V.rf at hr; cases hr
theorem VCells.rf : ∀ (cs : List V) (vs : List Value),V.rfs cs = true → VCells X M w cs vs → VCells X' M w cs vs
 | [],vs,_,h => by unfold VCells at h ⊢; exact h
 | c :: cs,vs,hr,h => by
  unfold V.rfs at hr
  simp only [Bool.and_eq_true] at hr
  unfold VCells at h ⊢
  obtain ⟨v,rest,h1,h2,h3⟩ := h
  exact ⟨v,rest,h1,VR.rf c v hr.1 h2,VCells.rf cs rest hr.2 h3⟩
end
end
theorem zD {α : Type} {E : α → V} (hE : ∀ x,(E x).rf = true) : ∀ l : List α,V.rfs (l.map E) = true
 | [] => by simp [V.rfs]
 | x :: l => by simp [V.rfs,hE,zD hE l]
mutual
theorem V.rf_rn (f : Nat → Nat) : ∀ x : V,(x.rn f).rf = x.rf
 | .sc _ => by unfold V.rn; rfl
 | .any => by unfold V.rn; rfl
 | .row _ _ _ => by unfold V.rn; rfl
 | .ptr _ _ => by unfold V.rn; rfl
 | .mp _ => by unfold V.rn; rfl
 | .sl _ _ _ _ _ => by unfold V.rn; rfl
 | .eptr _ _ _ => by unfold V.rn; rfl
 | .agg cs => by unfold V.rn; simp only [V.rf]; exact V.rfs_rn f cs
 | .tup cs => by unfold V.rn; simp only [V.rf]; exact V.rfs_rn f cs
theorem V.rfs_rn (f : Nat → Nat) : ∀ cs : List V,V.rfs (V.rns f cs) = V.rfs cs
 | [] => by unfold V.rns; rfl
 | c :: cs => by unfold V.rns; simp only [V.rfs]; rw [V.rf_rn f c,V.rfs_rn f cs]
end
def aAq (β : List Nat) : Nat → Hp → Hp
 | _,[] => []
 | i,o :: h => (bif β.elem i then o else none) :: aAq β (i + 1) h
def only (β : List Nat) (h : Hp) : Hp := aAq β 0 h
theorem aFH (β : List Nat) : ∀ (h : Hp) (i j : Nat),(aAq β i h)[j]? = (h[j]?).map fun o => bif β.elem (i + j) then o else none
 | [],i,j => by simp [aAq]
 | o :: h,i,0 => by simp [aAq]
 | o :: h,i,j + 1 => by
  simp only [aAq,List.getElem?_cons_succ]
  rw [aFH β h (i + 1) j]
  simp [Nat.add_assoc,Nat.add_comm 1 j]
theorem xT {β : List Nat} {h : Hp} {j : Nat} {B : Blk} (hj : (only β h)[j]? = some (some B)) : j ∈ β ∧ h[j]? = some (some B) := by
 unfold only at hj
 rw [aFH] at hj
 cases ho : h[j]? with
 | none => rw [ho] at hj; cases hj
 | some o =>
  rw [ho] at hj
  simp only [Nat.zero_add,Option.map_some,Option.some.injEq] at hj
  cases he : β.elem j with
  | false => rw [he] at hj; cases hj
  | true => rw [he] at hj; simp only [cond_true] at hj; subst hj; exact ⟨List.elem_iff.1 he,rfl⟩
theorem aKR (β : List Nat) (h : Hp) : (only β h).length = h.length := by
 have : ∀ (h : Hp) (i : Nat),(aAq β i h).length = h.length := by
  intro h
  induction h with
  | nil => intro i; rfl
  | cons o h ih => intro i; simp [aAq,ih]
 exact this h 0
theorem HR.only {A A2 : Nat → Prop} {M : List (Option Nat)} {h : Hp} {w : World} (H : HR A M h w) (β : List Nat) (h1 : ∀ g,A2 g → g < w.heap.size) (h2 : ∀ (b : Nat) (B : Blk) (g : Nat),b ∈ β → h[b]? = some (some B) → M[b]? = some (some g) → ¬ A2 g)
  (h3 : ∀ g,Xs A2 M (Vm.only β h) g → Xs A M h g) : HR A2 M (Vm.only β h) w := by
 refine ⟨by rw [aKR]; exact H.len,h1,fun b B hb => ?_,fun b b' B B' g hb hb' => H.inj b b' B B' g (xT hb).2 (xT hb').2,H.glob.avoid fun g _ hx => h3 g hx⟩
 obtain ⟨hm,hb'⟩ := xT hb
 obtain ⟨k0,hn | ⟨g,cs,hg,hA,hh,hle,hcs⟩⟩ := H.blk b B hb'
 ·exact ⟨k0,.inl hn⟩
 ·exact ⟨k0,.inr ⟨g,cs,hg,h2 b B g hm hb' hg,hh,hle,hcs.avoid (fun g _ hx => h3 g hx)⟩⟩
def Brw (σ : Nat → Nat) (hE : Hp) : List V → List V → Prop
 | [],[] => True
 | x :: xs,y :: ys => (V.le v9 x (y.rn σ) ∨ ∃ z,tX hE x = some z ∧ V.le v9 z y) ∧ Brw σ hE xs ys
 | _,_ => False
theorem Brw.nil {σ : Nat → Nat} {hE : Hp} : Brw σ hE [] [] := trivial
theorem Brw.same {σ : Nat → Nat} {hE : Hp} {x y : V} {xs ys : List V} (h : y.rn σ = x) (k : Brw σ hE xs ys) : Brw σ hE (x :: xs) (y :: ys) := ⟨.inl (by rw [h]; exact V.le_refl _ _),k⟩
theorem Brw.row {σ : Nat → Nat} {hE : Hp} {x y : V} {xs ys : List V} (h : tX hE x = some y) (k : Brw σ hE xs ys) : Brw σ hE (x :: xs) (y :: ys) := ⟨.inr ⟨y,h,V.le_refl _ _⟩,k⟩
theorem aIj {α : Type} {E : α → V} {F : V → Option V} (hE : ∀ x,F (E x) = some (E x)) : ∀ l : List α,(l.map E).mapM F = some (l.map E)
 | [] => rfl
 | x :: l => by
  simp only [List.map_cons,List.mapM_cons,hE,Option.bind_eq_bind,Option.bind_some,aIj hE l,Option.pure_def]
theorem aJL {α : Type} {E : α → V} {l : List α} {hE : Hp} {b q d : Nat} {e : TypeId} (hn : l.length = q) (hb : hE[b]? = some (some ⟨e,l.map E⟩)) (hx : ∀ x,dU hE d (E x) = some (E x)) : dU hE (d + 1) (.sl b 0 q 1 false) = some (.row none 1 (l.map E)) := by
 subst hn
 simp only [dU,hb]
 rw [if_pos ⟨by simp,by omega,.inr trivial⟩]
 simp only [List.drop_zero,Nat.mul_one]
 rw [List.take_of_length_le (by simp),aIj hx]
 simp [rX]
theorem aEE {α : Type} {E : α → V} {l : List α} {hE : Hp} {b q : Nat} {e : TypeId} (hn : l.length = q) (hb : hE[b]? = some (some ⟨e,l.map E⟩)) (hx : ∀ x,dU hE 3 (E x) = some (E x)) : tX hE (.sl b 0 q 1 false) = some (.row none 1 (l.map E)) := aJL hn hb hx
theorem aMt {F : V → Option V} : ([] : List V).mapM F = some [] := rfl
theorem aBm {F : V → Option V} {c y : V} {cs ys : List V} (h : F c = some y) (k : cs.mapM F = some ys) : (c :: cs).mapM F = some (y :: ys) := by simp [List.mapM_cons,h,k]
theorem aMk {hE : Hp} {cs ys : List V} (h : cs.mapM (dU hE 4) = some ys) : tX hE (.agg cs) = some (.agg ys) := by simp [tX,h]
set_option maxHeartbeats 1000000 in
theorem Fn.borrow {P : Program} {f : FuncId} {hs hs' hb : Hp} {args xs : List V} {r : V} (hc : Fn P f hs args r hs') (ρ β : List Nat) (hlen : ρ.length = hs.length) (hnd : ρ.Nodup) (hlt : ∀ b ∈ ρ,b < hb.length) (hdis : ∀ b ∈ β,b ∉ ρ)
  (hlend : ∀ i b : Nat,ρ[i]? = some b → hb[b]? = (m7 (sg ρ hb.length) hs)[i]?) (hx : Brw (sg ρ hb.length) (only β hb) xs args) (hrf : r.rf = true) (hrb : ∀ (i : Nat) (B : Blk),hs'[i]? = some (some B) → V.rfs B.cells = true) :
  Fn P f hb xs (r.rn (sg ρ hb.length)) (iG hb ρ hs') := by
 intro A M w vs H hargs
 have hσ : ∀ i b : Nat,ρ[i]? = some b → sg ρ hb.length i = b := fun i b hi => by simp [sg,hi]
 have hσ' : ∀ i,ρ.length ≤ i → sg ρ hb.length i = hb.length + (i - ρ.length) := fun i hi => by simp [sg,hi]
 generalize hsg : sg ρ hb.length = σ at *
 let Ms : List (Option Nat) := ρ.map fun b => (M[b]?).getD none
 have hMs : ∀ i b : Nat,ρ[i]? = some b → Ms[i]? = M[b]? := by
  intro i b hi
  have hb' : b < M.length := by rw [H.len]; exact hlt b (List.mem_of_getElem? hi)
  simp only [Ms,List.getElem?_map,hi,Option.map_some]
  rw [List.getElem?_eq_getElem hb']
  rfl
 have hMslen : Ms.length = hs.length := by simp [Ms,hlen]
 have hfrom : ∀ b y,M[σ b]? = some y → Ms[b]? = some y := by
  intro b y hy
  rcases Nat.lt_or_ge b ρ.length with hl | hl
  ·have hi : ρ[b]? = some ρ[b] := List.getElem?_eq_getElem hl
   rw [hMs b _ hi,← hσ b _ hi]; exact hy
  ·rw [hσ' b hl] at hy
   have := (List.getElem?_eq_some_iff.1 hy).1
   rw [H.len] at this; omega
 let A' : Nat → Prop := fun g => A g ∨ ∃ b B,b ∉ ρ ∧ b ∉ β ∧ hb[b]? = some (some B) ∧ M[b]? = some (some g)
 have hin : ∀ {i : Nat} {B : Blk},hs[i]? = some (some B) → ∃ b,ρ[i]? = some b ∧ hb[b]? = some (some (B.rn σ)) ∧ Ms[i]? = M[b]? := by
  intro i B hi
  have hl : i < ρ.length := by rw [hlen]; exact (List.getElem?_eq_some_iff.1 hi).1
  have hr : ρ[i]? = some ρ[i] := List.getElem?_eq_getElem hl
  refine ⟨_,hr, ?_,hMs i _ hr⟩
  rw [hlend i _ hr,aEZ,hi]; rfl
 have hliveS : ∀ g,dA Ms hs g → dA M hb g := by
  rintro g ⟨i,B,hi,hm⟩
  obtain ⟨b,_,hb1,hb2⟩ := hin hi
  exact ⟨b,_,hb1,by rw [← hb2]; exact hm⟩
 have hX1 : ∀ g,Xs A' Ms hs g → Xs A M hb g := by
  rintro g ((ha | ⟨b,B,_,_,hb1,hb2⟩) | hl)
  ·exact .inl ha
  ·exact .inr ⟨b,B,hb1,hb2⟩
  ·exact .inr (hliveS g hl)
 have hout : ∀ {b : Nat} {B : Blk} {g : Nat},b ∉ ρ → hb[b]? = some (some B) → M[b]? = some (some g) → ¬ dA Ms hs g := by
  rintro b B g hb0 hb1 hb2 ⟨i,C,hi,hm⟩
  obtain ⟨c,hc0,hc1,hc2⟩ := hin hi
  have := H.inj b c B _ g hb1 hc1 hb2 (by rw [← hc2]; exact hm)
  subst this
  exact hb0 (List.mem_of_getElem? hc0)
 have hA' : ∀ {b : Nat} {B : Blk} {g : Nat},b ∈ β → hb[b]? = some (some B) → M[b]? = some (some g) → ¬ A' g := by
  rintro b B g hbβ hb1 hb2 (ha | ⟨c,C,hc0,hc3,hc1,hc2⟩)
  ·obtain ⟨_,⟨hn,_⟩ | ⟨g',cs,hg',hA,_⟩⟩ := H.blk b B hb1
   ·rw [hb2] at hn; cases hn
   ·rw [hb2] at hg'; injection hg' with hg'; injection hg' with hg'; subst hg'; exact hA ha
  ·have := H.inj b c B C g hb1 hc1 hb2 hc2
   subst this; exact hc3 hbβ
 have HS : HR A' Ms hs w := by
  refine ⟨hMslen, ?_, ?_, ?_,H.glob.avoid fun g _ hx => hX1 g hx⟩
  ·rintro g (ha | ⟨b,B,_,_,hb1,hb2⟩)
   ·exact H.alt g ha
   ·exact H.lt (.inr ⟨b,B,hb1,hb2⟩)
  ·intro i B hi
   obtain ⟨b,hb0,hb1,hb2⟩ := hin hi
   obtain ⟨h1,h2⟩ := H.blk b _ hb1
   refine ⟨V.one_rns h1, ?_⟩
   rcases h2 with ⟨hn,hc0⟩ | ⟨g,cs,hg,hA,hh,hle,hcs⟩
   ·refine .inl ⟨by rw [hb2]; exact hn, ?_⟩
    have := congrArg List.length hc0
    simp only [Blk.rn,V.rns_length,List.length_nil] at this
    exact List.eq_nil_of_length_eq_zero this
   ·refine .inr ⟨g,cs,by rw [hb2]; exact hg, ?_,by simpa [Blk.rn,V.rns_length] using hh, ?_, ?_⟩
    ·rintro (ha | ⟨c,C,hc0,_,hc1,hc2⟩)
     ·exact hA ha
     ·have := H.inj b c _ C g hb1 hc1 hg hc2
      subst this
      exact hc0 (List.mem_of_getElem? hb0)
    ·simpa [Blk.rn,V.rns_length] using hle
    ·have hcs' : VCells (Xs A M hb) M w (V.rns σ B.cells) (cs.toList.take B.cells.length) := by simpa [Blk.rn,V.rns_length] using hcs
     exact (VCells.rn_from hfrom _ _ hcs').avoid (fun g _ hx => hX1 g hx)
  ·intro i j B C g hi hj mi mj
   obtain ⟨b,hb0,hb1,hb2⟩ := hin hi
   obtain ⟨c,hc0,hc1,hc2⟩ := hin hj
   have := H.inj b c _ _ g hb1 hc1 (by rw [← hb2]; exact mi) (by rw [← hc2]; exact mj)
   subst this
   have hil := (List.getElem?_eq_some_iff.1 hb0).1
   exact (List.getElem?_inj hil hnd).1 (hb0.trans hc0.symm)
 have HB : HR (Xs A' Ms hs) M (only β hb) w := by
  refine H.only β (fun g hg => HS.lt hg) ?_ ?_
  ·rintro b B g hbβ hb1 hb2 (ha | hl)
   ·exact hA' hbβ hb1 hb2 ha
   ·exact hout (hdis b hbβ) hb1 hb2 hl
  ·rintro g (hx | ⟨b,B,hb1,hb2⟩)
   ·exact hX1 g hx
   ·exact .inr ⟨b,B,(xT hb1).2,hb2⟩
 have hargsS : VCells (Xs A' Ms hs) Ms w args vs := by
  have key : ∀ (xs args : List V) (vs : List Value),Brw σ (only β hb) xs args → VCells (Xs A M hb) M w xs vs → VCells (Xs A' Ms hs) Ms w args vs := by
   intro xs
   induction xs with
   | nil =>
    intro args vs hx hv
    cases args with
    | nil => unfold VCells at hv ⊢; exact hv
    | cons => exact hx.elim
   | cons x xs ih =>
    intro args vs hx hv
    cases args with
    | nil => exact hx.elim
    | cons y ys =>
     unfold VCells at hv ⊢
     obtain ⟨v,rest,e1,e2,e3⟩ := hv
     refine ⟨v,rest,e1, ?_,ih ys rest hx.2 e3⟩
     rcases hx.1 with hl | ⟨z,hz,hl⟩
     ·exact (VR.rn_from hfrom _ _ (V.le_sound (fun _ hb => by cases hb) _ _ _ hl e2)).avoid (fun g _ hx => hX1 g hx)
     ·have e2' : VR (Xs (Xs A' Ms hs) M (only β hb)) M w x v := e2.avoid (fun g _ hx => by
       rcases hx with hx | ⟨b,B,hb1,hb2⟩
       ·exact hX1 g hx
       ·exact .inr ⟨b,B,(xT hb1).2,hb2⟩)
      exact V.le_sound (fun _ hb => by cases hb) _ _ _ hl (aHx HB e2' hz).lift
  exact key xs args vs hx hargs
 refine (hc A' Ms w vs HS hargsS).mono fun v w' ⟨Ms',G,hv⟩ => ?_
 obtain ⟨Mn,rfl⟩ := G.pre
 have hMnlen : hs'.length = ρ.length + Mn.length := by rw [← G.hr.len]; simp [Ms]
 have hto : ∀ b y,(Ms ++ Mn)[b]? = some y → (M ++ Mn)[σ b]? = some y := by
  intro b y hy
  rcases Nat.lt_or_ge b ρ.length with hl | hl
  ·have hi : ρ[b]? = some ρ[b] := List.getElem?_eq_getElem hl
   rw [List.getElem?_append_left (by rw [hMslen,← hlen]; exact hl),hMs b _ hi] at hy
   rw [hσ b _ hi,List.getElem?_append_left (by rw [H.len]; exact hlt _ (List.mem_of_getElem? hi))]
   exact hy
  ·rw [List.getElem?_append_right (by rw [hMslen,← hlen]; exact hl),hMslen,← hlen] at hy
   rw [hσ' b hl,List.getElem?_append_right (by rw [H.len]; omega),H.len,show hb.length + (b - ρ.length) - hb.length = b - ρ.length by omega]
   exact hy
 have hlentlen : (dN hb ρ (m7 σ hs')).length = hb.length := wU _ _ _
 have hrnlen : (m7 σ hs').length = hs'.length := by simp [m7]
 have hcase : ∀ {b : Nat} {B : Blk},(iG hb ρ hs')[b]? = some (some B) → (b ∉ ρ ∧ hb[b]? = some (some B)) ∨ ∃ i C,hs'[i]? = some (some C) ∧ b = σ i ∧ B = C.rn σ ∧ (M ++ Mn)[b]? = (Ms ++ Mn)[i]? := by
  intro b B hb1
  unfold iG at hb1
  rw [hsg] at hb1
  rcases Nat.lt_or_ge b hb.length with hl | hl
  ·rw [List.getElem?_append_left (by rw [hlentlen]; exact hl)] at hb1
   by_cases hm : b ∈ ρ
   ·obtain ⟨i,hi⟩ := List.mem_iff_getElem?.1 hm
    rw [aBH hnd hlt (by rw [hrnlen]; omega) hi] at hb1
    obtain ⟨C,hC,hB⟩ := z9 hb1
    have hil := (List.getElem?_eq_some_iff.1 hi).1
    refine .inr ⟨i,C,hC,(hσ i b hi).symm,hB, ?_⟩
    rw [List.getElem?_append_left (by rw [H.len]; exact hl),List.getElem?_append_left (by rw [hMslen,← hlen]; exact hil),hMs i b hi]
   ·rw [w8 hm] at hb1
    exact .inl ⟨hm,hb1⟩
  ·rw [List.getElem?_append_right (by rw [hlentlen]; exact hl),hlentlen,List.getElem?_drop] at hb1
   obtain ⟨C,hC,hB⟩ := z9 hb1
   refine .inr ⟨_,C,hC, ?_,hB, ?_⟩
   ·rw [hσ' _ (by omega)]; omega
   ·rw [List.getElem?_append_right (by rw [H.len]; exact hl),List.getElem?_append_right (by rw [hMslen,← hlen]; omega),H.len,hMslen,← hlen]
    congr 1; omega
 have hlive : ∀ g,g < w.heap.size → dA (M ++ Mn) (iG hb ρ hs') g → dA M hb g := by
  rintro g hg ⟨b,B,hb1,hb2⟩
  rcases hcase hb1 with ⟨hb0,hb3⟩ | ⟨i,C,hC,rfl,rfl,he⟩
  ·refine ⟨b,B,hb3, ?_⟩
   rw [List.getElem?_append_left (by rw [H.len]; exact (List.getElem?_eq_some_iff.1 hb3).1)] at hb2
   exact hb2
  ·exact hliveS g (G.live g hg ⟨i,C,hC,by rw [← he]; exact hb2⟩)
 have hnew : ∀ {i : Nat} {C : Blk} {b : Nat} {B : Blk} {g : Nat},hs'[i]? = some (some C) → (Ms ++ Mn)[i]? = some (some g) → b ∉ ρ → hb[b]? = some (some B) → M[b]? = some (some g) → False := by
  intro i C b B g hi hm hb0 hb1 hb2
  have hgs : g < w.heap.size := H.lt (.inr ⟨b,B,hb1,hb2⟩)
  exact hout hb0 hb1 hb2 (G.live g hgs ⟨i,C,hi,hm⟩)
 refine ⟨M ++ Mn,⟨⟨Mn,rfl⟩,⟨?_, ?_, ?_, ?_,H.glob.ext G.ext (fun g _ hl => .inr (hliveS g hl)) (fun g hg hx => hx.elim .inl (fun hl => .inr (hlive g hg hl)))⟩,G.ext.mono (fun g _ hl => hliveS g hl),hlive⟩,VR.rf _ _ (by rw [V.rf_rn]; exact hrf) (VR.rn_to hto _ _ hv)⟩
 ·unfold iG
  rw [hsg]
  simp only [List.length_append,List.length_drop,hlentlen,hrnlen,H.len]
  omega
 ·exact fun g hg => Nat.lt_of_lt_of_le (H.alt g hg) G.ext.size
 ·intro b B hb1
  rcases hcase hb1 with ⟨hb0,hb3⟩ | ⟨i,C,hC,rfl,rfl,he⟩
  ·have hbl : b < M.length := by rw [H.len]; exact (List.getElem?_eq_some_iff.1 hb3).1
   obtain ⟨h1,⟨hn,hc0⟩ | ⟨g,cs,hg,hA,hh,hle,hcs⟩⟩ := H.blk b B hb3
   ·exact ⟨h1,.inl ⟨by rw [List.getElem?_append_left hbl]; exact hn,hc0⟩⟩
   ·have hgs : g < w.heap.size := H.lt (.inr ⟨b,B,hb3,hg⟩)
    refine ⟨h1,.inr ⟨g,cs,by rw [List.getElem?_append_left hbl]; exact hg,hA, ?_,hle, ?_⟩⟩
    ·exact hh.to (G.ext.block g hgs (hout hb0 hb3 hg))
    ·exact VCells.ext G.ext ⟨Mn,rfl⟩ (fun g _ hl => .inr (hliveS g hl)) (fun g hg hx => hx.elim .inl (fun hl => .inr (hlive g hg hl))) _ _ hcs
  ·obtain ⟨h1,h2⟩ := G.hr.blk i C hC
   refine ⟨V.rns_mem (V.rn_one σ) h1, ?_⟩
   rcases h2 with ⟨hn,hc0⟩ | ⟨g,cs,hg,hA,hh,hle,hcs⟩
   ·refine .inl ⟨by rw [he]; exact hn, ?_⟩
    simp [Blk.rn,hc0,V.rns]
   ·refine .inr ⟨g,cs,by rw [he]; exact hg,fun ha => hA (.inl ha),by simpa [Blk.rn,V.rns_length] using hh, ?_, ?_⟩
    ·simpa [Blk.rn,V.rns_length] using hle
    ·have h5 := VCells.rn_to hto _ _ hcs
     have h6 : VCells (Xs A (M ++ Mn) (iG hb ρ hs')) (M ++ Mn) w' (V.rns σ C.cells) (cs.toList.take C.cells.length) := VCells.rf _ _ (by rw [V.rfs_rn]; exact hrb i C hC) h5
     simpa [Blk.rn,V.rns_length] using h6
 ·intro b c B C g hb1 hc1 mb mc
  rcases hcase hb1 with ⟨hb0,hb3⟩ | ⟨i,D,hD,rfl,rfl,he⟩ <;> rcases hcase hc1 with ⟨hc0,hc3⟩ | ⟨j,E,hE,rfl,rfl,he'⟩
  ·rw [List.getElem?_append_left (by rw [H.len]; exact (List.getElem?_eq_some_iff.1 hb3).1)] at mb
   rw [List.getElem?_append_left (by rw [H.len]; exact (List.getElem?_eq_some_iff.1 hc3).1)] at mc
   exact H.inj b c B C g hb3 hc3 mb mc
  ·rw [List.getElem?_append_left (by rw [H.len]; exact (List.getElem?_eq_some_iff.1 hb3).1)] at mb
   rw [he'] at mc
   exact (hnew hE mc hb0 hb3 mb).elim
  ·rw [List.getElem?_append_left (by rw [H.len]; exact (List.getElem?_eq_some_iff.1 hc3).1)] at mc
   rw [he] at mb
   exact (hnew hD mb hc0 hc3 mc).elim
  ·rw [G.hr.inj i j D E g hD hE (by rw [← he]; exact mb) (by rw [← he']; exact mc)]
def rfB : Hp → Prop
 | [] => True
 | none :: h => rfB h
 | some B :: h => V.rfs B.cells = true ∧ rfB h
theorem rfB.get : ∀ {h : Hp},rfB h → ∀ (i : Nat) (B : Blk),h[i]? = some (some B) → V.rfs B.cells = true
 | [],_,i,B,hi => by simp at hi
 | none :: h,hh,0,B,hi => by simp at hi
 | none :: h,hh,i + 1,B,hi => rfB.get (h := h) hh i B (by simpa using hi)
 | some C :: h,hh,0,B,hi => by simp at hi; subst hi; exact hh.1
 | some C :: h,hh,i + 1,B,hi => rfB.get (h := h) hh.2 i B (by simpa using hi)
theorem rfB.nil : rfB [] := trivial
theorem rfB.live {h : Hp} {e : TypeId} {cs : List V} (hc : V.rfs cs = true) (k : rfB h) : rfB (some ⟨e,cs⟩ :: h) := ⟨hc,k⟩
theorem Fn.lendR {P : Program} {f : FuncId} {hs hs' hb hb' : Hp} {args xs : List V} {r v : V} (hc : Fn P f hs args r hs') (ρ β : List Nat) (hnd : ρ.Nodup) (hlt : ρ.all (fun b => Nat.blt b hb.length) = true) (hdis : ∀ b ∈ β,b ∉ ρ) (hl : Lend (sg ρ hb.length) hb ρ hs)
  (hx : Brw (sg ρ hb.length) (only β hb) xs args) (hrf : r.rf = true) (hrb : rfB hs') (hr : r.rn (sg ρ hb.length) = v) (hh : iG hb ρ hs' = hb') : Fn P f hb xs v hb' := by
 have := Fn.borrow (hb := hb) hc ρ β hl.len hnd (fun b hb' => by
  have h2 := List.all_eq_true.1 hlt b hb'
  exact Nat.le_of_ble_eq_true (n := b + 1) h2) hdis hl.get hx hrf hrb.get
 rw [hr,hh] at this
 exact this
section
variable {P : Program} {N : Nat} {Q : Ex → List V → Hp → Prop} {s : List V} {h h' : Hp}
theorem AB.seq_g {c d : Code} (hh : ∀ K : List V → Hp → Prop,(∀ s h,AB P N d Q s h → K s h) → (∀ s h s' h',Ghost N s h s' h' → K s' h' → K s h) → AB P N c (Ex.then K Q) s h) : AB P N (.seq c d) Q s h :=
 AB.seq (hh _ (fun _ _ hk => hk) (fun _ _ _ _ hg hk => AB.ghost hg hk))
variable {f : FuncId} {xs : List V} {r : V}
variable (t : TypeId) (xo yo : Operand)
theorem aBZ {α β : Type} (s : Sem α) (f : α → β) {a : α} (h : bD P s = some a) : bD P (Functor.map f s) = some (f a) := by
 show bD P (Sem.bind s _) = _
 induction s with
 | pure x => simp only [bD,Option.some.injEq] at h; subst h; rfl
 | program k ih => exact ih P h
 | mark m k ih => exact ih h
 | _ => simp [bD] at h
theorem aGV (a b : ByteArray) : dR P .eql t xo yo (.sc (.string a)) (.sc (.string b)) = some (.sc (.bool (a.toList == b.toList))) := by
 simp only [dR,eU,dZ,aG5,pureV]; rfl
end
theorem aOI {P : Program} {h h' : Hp} {t e : TypeId} {ti : TI} {i b : Nat} {α : Type} {E : α → V} {l m : List α} {sz by_ : Nat} {z : Value} {ag : Bool} {q : Nat} (hn : q ≤ l.length) (ht : aN P t = some ⟨.slice e,sz,by_,z⟩) (he : aN P e = some ti) (h1 : ti.zero.cells.size = 1 ∧ ti.size = 1 ∧ 1 ≤ ti.bytes) (hb : h[b]? = some (some ⟨e,l.map E⟩)) {s : V} (hs : fK h 1 s = some (m.map E,m.length))
  {r : List α} (ha : eZ ti.bytes (l.take q) m = some r) (hl : h.length = i) (hh : h.set b none ++ [some ⟨e,r.map E⟩] = h') : jR P t t (.sl b 0 q 1 ag) s h = some (.sl i 0 r.length 1 ag,h') := by
 obtain ⟨h2,h3,h4⟩ := h1
 unfold eZ at ha
 split at ha
 ·rename_i hlim
  injection ha with ha
  have hql : (l.take q).length = q := by simp; omega
  rw [hql] at hlim
  subst ha hl hh
  have hx : fK h ti.size s = some (m.map E,m.length) := by rw [h3]; exact hs
  simp only [jR,ne_eq,not_true,if_false,ht,he]
  rw [if_pos ⟨by rw [h2,h3],by omega,h4⟩]
  simp only [hx,hb]
  rw [if_pos ⟨h3.symm,trivial,by simp; omega,hlim⟩]
  simp [List.map_take,Nat.min_eq_left hn]
 ·cases ha
theorem mkC {k1 k2 : IntKind} {P : Program} {h h' : Hp} {t e : TypeId} {ti : TI} {i : Nat} {α : Type} {E : α → V} {sz by_ : Nat} {z : Value} {ag : Bool} {j : Int} {y : α} (ht : aN P t = some ⟨.slice e,sz,by_,z⟩) (he : aN P e = some ti) (h1 : 1 ≤ ti.bytes ∧ ti.size = 1 ∧ ti.zero.cells.size = 1) (hz : ti.zero.cells.toList.map (V.soft ∘ dO) = [E y]) (ho : (E y).one = true) (hag : cB ti.desc = ag) {r : List α}
  (hm : mks ti.bytes y j = some r) (hl : h.length = i) (hh : h ++ [some ⟨e,r.map E⟩] = h') : y9 P t (.sc (.int k1 0)) (.sc (.int k2 j)) h = some (.sl i 0 0 1 ag,h') := by
 obtain ⟨h2,h3,h4⟩ := h1
 unfold mks at hm
 split at hm
 ·rename_i hlim
  injection hm with hm
  subst hm hl hh hag
  simp only [y9,ht,he]
  rw [if_pos ⟨Int.le_refl _,hlim.1,hlim.2,h2,by omega,by rw [h4,h3],by rw [hz]; simp [ho]⟩,hz]
  simp only [h3,if_true]
  have : ∀ n,(List.replicate n [E y]).flatten = (List.replicate n y).map E := fun n => by
   induction n with
   | zero => rfl
   | succ n ih => simp only [List.replicate_succ,List.flatten_cons,ih,List.map_cons]; rfl
  rw [this]; simp
 ·cases hm
def qV : Nat → List V → List (Nat × V)
 | _,[] => []
 | i,x :: xs => (i,x) :: qV (i + 1) xs
theorem aGw : ∀ (xs : List V) (i : Nat) (cells : List V),cells.length = i + xs.length → xs.all (fun x => x.one && (x.cells.length == 1)) = true → mZ (fun i => some (i * 1,1)) cells (qV i xs) = some (cells.take i ++ xs)
 | [],i,cells,hl,_ => by
  simp only [qV,mZ,List.append_nil]
  rw [List.take_of_length_le (by simp at hl; omega)]
 | x :: xs,i,cells,hl,ho => by
  simp only [List.all_cons,Bool.and_eq_true,beq_iff_eq] at ho
  obtain ⟨⟨h1,h2⟩,h3⟩ := ho
  simp only [List.length_cons] at hl
  have hc : x.cells = [x] := by cases x <;> first | rfl | simp [V.one] at h1
  simp only [qV,mZ]
  rw [if_pos ⟨by simp [V.flatOk,hc,h1],h2,by omega⟩,hc]
  have hs : splice cells (i * 1) [x] = cells.set i x := by
   have := aDF (E := fun v : V => v) (l := cells) i (by omega) x
   simpa using this
  rw [hs,aGw xs (i + 1) _ (by simp; omega) (by simpa [List.all_eq_true,Bool.and_eq_true] using h3)]
  congr 1
  rw [List.take_succ_eq_append_getElem (by simp; omega)]
  simp [List.take_set_of_le]
theorem aIY {P : Program} {h h' : Hp} {t e : TypeId} {ti : TI} {i sz by_ len : Nat} {z : Value} {ps : List (Nat × V)} {xs : List V} {ag : Bool} (ht : aN P t = some ⟨.slice e,sz,by_,z⟩) (he : aN P e = some ti) (h1 : len * 1 ≤ 2 ^ 24) (h2 : 0 < len) (hs : ti.size = 1) (hag : cB ti.desc = ag)
  (hp : qV 0 xs = ps) (ho : xs.all (fun x => x.one && (x.cells.length == 1)) = true) (hlen : xs.length = len) (hl : h.length = i) (hh : h ++ [some ⟨e,xs⟩] = h') : iI P t len ps h = some (.sl i 0 len 1 ag,h') := by
 have hones : xs.all V.one = true := by
  rw [List.all_eq_true] at ho ⊢
  intro x hx
  have := ho x hx
  simp only [Bool.and_eq_true] at this
  exact this.1
 subst hp
 have := aNz (h := h) (len := len) (cs := xs) (ps := qV 0 xs) (i := i) (h' := h') ht he (by rw [hs]; exact ⟨h1,h2,by omega⟩) hag (by
  rw [hs]
  rw [aGw xs 0 _ (by simp [hs,hlen]) ho]
  simp) ⟨hones,by rw [hs,hlen]; omega⟩ hl hh
 rw [hs] at this
 exact this
theorem aGY {k : IntKind} (hk : k.signed = false) (n : Int) : k.wrap n = n % 2 ^ k.bits := by simp [IntKind.wrap,hk]
theorem aCk {k : IntKind} (hk : k.signed = false) (a b : Nat) (ha : a < 2 ^ k.bits) (hb : b < 2 ^ k.bits) : bits .and k (a : Int) (b : Int) = ((a &&& b : Nat) : Int) := by
 have hab : a &&& b < 2 ^ k.bits := Nat.and_lt_two_pow a hb
 simp only [bits,aGY hk,BitVec.toNat_and,BitVec.toNat_ofInt]
 have e1 : ((a : Int) % ((2 ^ k.bits : Nat) : Int)).toNat = a := by rw [← Int.natCast_emod,Int.toNat_natCast,Nat.mod_eq_of_lt ha]
 have e2 : ((b : Int) % ((2 ^ k.bits : Nat) : Int)).toNat = b := by rw [← Int.natCast_emod,Int.toNat_natCast,Nat.mod_eq_of_lt hb]
 rw [e1,e2]
 rw [show (2 : Int) ^ k.bits = ((2 ^ k.bits : Nat) : Int) by simp,← Int.natCast_emod,Nat.mod_eq_of_lt hab]
theorem t0 {k : IntKind} (hk : k.signed = false) (a b : Nat) (ha : a < 2 ^ k.bits) (hb : b < 2 ^ k.bits) : bits .or k (a : Int) (b : Int) = ((a ||| b : Nat) : Int) := by
 have hab : a ||| b < 2 ^ k.bits := Nat.or_lt_two_pow ha hb
 simp only [bits,aGY hk,BitVec.toNat_or,BitVec.toNat_ofInt]
 have e1 : ((a : Int) % ((2 ^ k.bits : Nat) : Int)).toNat = a := by rw [← Int.natCast_emod,Int.toNat_natCast,Nat.mod_eq_of_lt ha]
 have e2 : ((b : Int) % ((2 ^ k.bits : Nat) : Int)).toNat = b := by rw [← Int.natCast_emod,Int.toNat_natCast,Nat.mod_eq_of_lt hb]
 rw [e1,e2]
 rw [show (2 : Int) ^ k.bits = ((2 ^ k.bits : Nat) : Int) by simp,← Int.natCast_emod,Nat.mod_eq_of_lt hab]
theorem uP {k : IntKind} (a b : Nat) (ha : a < 2 ^ k.bits) : shr k (a : Int) (b : Int) = some ((a / 2 ^ b : Nat) : Int) := by
 unfold shr
 rw [if_neg (by omega)]
 congr 1
 rw [Int.toNat_natCast]
 have : (2 : Int) ^ min b k.bits = ((2 ^ min b k.bits : Nat) : Int) := by simp
 rw [this,Int.fdiv_eq_ediv_of_nonneg _ (Int.natCast_nonneg _),← Int.natCast_ediv]
 congr 1
 rcases Nat.le_total b k.bits with hb | hb
 ·rw [Nat.min_eq_left hb]
 ·rw [Nat.min_eq_right hb,Nat.div_eq_of_lt ha,Nat.div_eq_of_lt (Nat.lt_of_lt_of_le ha (Nat.pow_le_pow_right (by omega) hb))]
theorem aA2 {k : IntKind} (hk : k.signed = false) (a b : Nat) : shl k (a : Int) (b : Int) = some ((a * 2 ^ b % 2 ^ k.bits : Nat) : Int) := by
 unfold shl
 rw [if_neg (by omega),aGY hk]
 congr 1
 rw [Int.toNat_natCast]
 have e : (2 : Int) ^ min b k.bits = ((2 ^ min b k.bits : Nat) : Int) := by simp
 rw [e,show (2 : Int) ^ k.bits = ((2 ^ k.bits : Nat) : Int) by simp,← Int.natCast_mul,← Int.natCast_emod]
 congr 1
 rcases Nat.le_total b k.bits with hb | hb
 ·rw [Nat.min_eq_left hb]
 ·rw [Nat.min_eq_right hb,Nat.mul_mod_left]
  obtain ⟨c,rfl⟩ := Nat.exists_eq_add_of_le hb
  rw [Nat.pow_add,← Nat.mul_assoc,Nat.mul_right_comm,Nat.mul_mod_left]
theorem aAX {α : Type} (l : List α) (i : Nat) : bS l (i : Int) = l[i]? := by simp [bS]
theorem d8 {α : Type} (l : List α) {i : Nat} (h : i < l.length) : bS l (i : Int) = some l[i] := by rw [aAX,List.getElem?_eq_getElem h]
theorem u6 {α : Type} {by_ : Nat} {l m : List α} (h : (l.length + m.length) * by_ ≤ lE) : eZ by_ l m = some (l ++ m) := by simp [eZ,h]
theorem aJq {α : Type} {by_ : Nat} {z : α} {n : Nat} (h : n * by_ ≤ lE) : mks by_ z (n : Int) = some (List.replicate n z) := by
 simp only [mks,Int.toNat_natCast]
 rw [if_pos ⟨by omega,h⟩]
theorem aEJ {α : Type} {l m : List α} (h : l.length = m.length) : j9 l m = m := by
 unfold j9; rw [h,List.take_of_length_le (Nat.le_refl _),List.drop_eq_nil_of_le (by omega)]; simp
theorem oK (a b : Nat) : Int.tdiv (a : Int) (b : Int) = ((a / b : Nat) : Int) := by rw [Int.tdiv_eq_ediv_of_nonneg (by omega)]; simp
theorem qE (a b : Nat) : Int.tmod (a : Int) (b : Int) = ((a % b : Nat) : Int) := by rw [Int.tmod_eq_emod_of_nonneg (by omega)]; simp
def Byt (l : List Int) : Prop := ∀ x ∈ l,0 ≤ x ∧ x < 256
theorem Byt.append {l m : List Int} (h : Byt l) (k : Byt m) : Byt (l ++ m) := fun x hx => (List.mem_append.1 hx).elim (h x) (k x)
theorem Fn.toP {P : Program} {f : FuncId} {xs : List V} {r : V} (hc : Fn P f [] xs r []) : PFn P f xs r := by
 intro A w vs hA hGl hv
 refine (hc A [] w vs (HR.nil hA hGl) (hv.avoid (fun g _ hx => aGu.1 hx))).mono fun v w' ⟨M',G,hr⟩ => ?_
 have hM : M' = [] := List.eq_nil_of_length_eq_zero G.hr.len
 subst hM
 exact ⟨G.ext.mono fun g _ hl => by obtain ⟨b,B,hb,_⟩ := hl; simp at hb,hr.avoid (fun g _ hx => aGu.2 hx)⟩
end Go.Vm
namespace Go.Proofs.YtnllpckhipmpgaaGreatDoor
open Go Go.Vm
@[simp] theorem ti2 : aN Tryz.prog 2 = some ⟨.int .i64,1,8,.int .i64 0⟩ := by kernel_rfl
@[simp] theorem cT : aN Tryz.prog 3 = some ⟨.int .i64,1,8,.int .i64 0⟩ := by kernel_rfl
@[simp] theorem yA : aN Tryz.prog 4 = some ⟨.bool,1,1,.bool false⟩ := by kernel_rfl
@[simp] theorem cZ : aN Tryz.prog 5 = some ⟨.int .u8,1,1,.int .u8 0⟩ := by kernel_rfl
@[simp] theorem ti9 : aN Tryz.prog 9 = some ⟨.string,1,16,.string .empty⟩ := by kernel_rfl
@[simp] theorem aOy : aN Tryz.prog 12 = some ⟨.int .u64,1,8,.int .u64 0⟩ := by kernel_rfl
@[simp] theorem aOW : aN Tryz.prog 21 = some ⟨.int .i32,1,4,.int .i32 0⟩ := by kernel_rfl
@[simp] theorem aKy : aN Tryz.prog 22 = some ⟨.slice 46,1,24,.slice none 0 0⟩ := by kernel_rfl
@[simp] theorem yR : aN Tryz.prog 23 = some ⟨.slice 31,1,24,.slice none 0 0⟩ := by kernel_rfl
@[simp] theorem aOL : aN Tryz.prog 24 = some ⟨.array 32 5,32,32,.agg #[.int .u8 0,.int .u8 0,.int .u8 0,.int .u8 0,.int .u8 0,.int .u8 0,.int .u8 0,.int .u8 0,.int .u8 0,.int .u8 0,.int .u8 0,.int .u8 0,.int .u8 0,.int .u8 0,.int .u8 0,.int .u8 0,.int .u8 0,.int .u8 0,.int .u8 0,.int .u8 0,.int .u8 0,.int .u8 0,.int .u8 0,.int .u8 0,.int .u8 0,.int .u8 0,.int .u8 0,.int .u8 0,.int .u8 0,.int .u8 0,.int .u8 0,.int .u8 0]⟩ := by kernel_rfl
@[simp] theorem yO : aN Tryz.prog 25 = some ⟨.array 32 5,32,32,.agg #[.int .u8 0,.int .u8 0,.int .u8 0,.int .u8 0,.int .u8 0,.int .u8 0,.int .u8 0,.int .u8 0,.int .u8 0,.int .u8 0,.int .u8 0,.int .u8 0,.int .u8 0,.int .u8 0,.int .u8 0,.int .u8 0,.int .u8 0,.int .u8 0,.int .u8 0,.int .u8 0,.int .u8 0,.int .u8 0,.int .u8 0,.int .u8 0,.int .u8 0,.int .u8 0,.int .u8 0,.int .u8 0,.int .u8 0,.int .u8 0,.int .u8 0,.int .u8 0]⟩ := by kernel_rfl
@[simp] theorem aPq : aN Tryz.prog 26 = some ⟨.struct #[{ name := "Message",type := 25,offset := 0,embedded := false,tag := "",pkgPath := "",byteOffset := 0 },{ name := "Height",type := 3,offset := 32,embedded := false,tag := "",pkgPath := "",byteOffset := 32 },{ name := "Age",type := 3,offset := 33,embedded := false,tag := "",pkgPath := "",byteOffset := 40 }],34,48,.agg #[.int .u8 0,.int .u8 0,.int .u8 0,.int .u8 0,.int .u8 0,.int .u8 0,.int .u8 0,.int .u8 0,.int .u8 0,.int .u8 0,.int .u8 0,.int .u8 0,.int .u8 0,.int .u8 0,.int .u8 0,.int .u8 0,.int .u8 0,.int .u8 0,.int .u8 0,.int .u8 0,.int .u8 0,.int .u8 0,.int .u8 0,.int .u8 0,.int .u8 0,.int .u8 0,.int .u8 0,.int .u8 0,.int .u8 0,.int .u8 0,.int .u8 0,.int .u8 0,.int .i64 0,.int .i64 0]⟩ := by kernel_rfl
@[simp] theorem aAc : aN Tryz.prog 27 = some ⟨.struct #[{ name := "Message",type := 25,offset := 0,embedded := false,tag := "",pkgPath := "",byteOffset := 0 },{ name := "Height",type := 3,offset := 32,embedded := false,tag := "",pkgPath := "",byteOffset := 32 },{ name := "Age",type := 3,offset := 33,embedded := false,tag := "",pkgPath := "",byteOffset := 40 }],34,48,.agg #[.int .u8 0,.int .u8 0,.int .u8 0,.int .u8 0,.int .u8 0,.int .u8 0,.int .u8 0,.int .u8 0,.int .u8 0,.int .u8 0,.int .u8 0,.int .u8 0,.int .u8 0,.int .u8 0,.int .u8 0,.int .u8 0,.int .u8 0,.int .u8 0,.int .u8 0,.int .u8 0,.int .u8 0,.int .u8 0,.int .u8 0,.int .u8 0,.int .u8 0,.int .u8 0,.int .u8 0,.int .u8 0,.int .u8 0,.int .u8 0,.int .u8 0,.int .u8 0,.int .i64 0,.int .i64 0]⟩ := by kernel_rfl
@[simp] theorem cG : aN Tryz.prog 31 = some ⟨.slice 5,1,24,.slice none 0 0⟩ := by kernel_rfl
@[simp] theorem aO8 : aN Tryz.prog 32 = some ⟨.int .i64,1,8,.int .i64 0⟩ := by kernel_rfl
@[simp] theorem aCl : aN Tryz.prog 41 = some ⟨.int .u32,1,4,.int .u32 0⟩ := by kernel_rfl
@[simp] theorem aOM : aN Tryz.prog 45 = some ⟨.struct #[{ name := "Code",type := 3,offset := 0,embedded := false,tag := "",pkgPath := "",byteOffset := 0 },{ name := "Data",type := 31,offset := 1,embedded := false,tag := "",pkgPath := "",byteOffset := 8 },{ name := "M",type := 3,offset := 2,embedded := false,tag := "",pkgPath := "",byteOffset := 32 },{ name := "N",type := 3,offset := 3,embedded := false,tag := "",pkgPath := "",byteOffset := 40 }],4,48,.agg #[.int .i64 0,.slice none 0 0,.int .i64 0,.int .i64 0]⟩ := by kernel_rfl
@[simp] theorem wM : aN Tryz.prog 46 = some ⟨.struct #[{ name := "Code",type := 3,offset := 0,embedded := false,tag := "",pkgPath := "",byteOffset := 0 },{ name := "Data",type := 31,offset := 1,embedded := false,tag := "",pkgPath := "",byteOffset := 8 },{ name := "M",type := 3,offset := 2,embedded := false,tag := "",pkgPath := "",byteOffset := 32 },{ name := "N",type := 3,offset := 3,embedded := false,tag := "",pkgPath := "",byteOffset := 40 }],4,48,.agg #[.int .i64 0,.slice none 0 0,.int .i64 0,.int .i64 0]⟩ := by kernel_rfl
@[simp] theorem aFf : aN Tryz.prog 54 = some ⟨.slice 73,1,24,.slice none 0 0⟩ := by kernel_rfl
@[simp] theorem aPe : aN Tryz.prog 55 = some ⟨.struct #[{ name := "Env",type := 27,offset := 0,embedded := true,tag := "",pkgPath := "",byteOffset := 0 },{ name := "stack",type := 23,offset := 34,embedded := false,tag := "",pkgPath := "lightclient/script",byteOffset := 48 },{ name := "branches",type := 54,offset := 35,embedded := false,tag := "",pkgPath := "lightclient/script",byteOffset := 72 },{ name := "cost",type := 3,offset := 36,embedded := false,tag := "",pkgPath := "lightclient/script",byteOffset := 96 }],37,104,.agg #[.int .u8 0,.int .u8 0,.int .u8 0,.int .u8 0,.int .u8 0,.int .u8 0,.int .u8 0,.int .u8 0,.int .u8 0,.int .u8 0,.int .u8 0,.int .u8 0,.int .u8 0,.int .u8 0,.int .u8 0,.int .u8 0,.int .u8 0,.int .u8 0,.int .u8 0,.int .u8 0,.int .u8 0,.int .u8 0,.int .u8 0,.int .u8 0,.int .u8 0,.int .u8 0,.int .u8 0,.int .u8 0,.int .u8 0,.int .u8 0,.int .u8 0,.int .u8 0,.int .i64 0,.int .i64 0,.slice none 0 0,.slice none 0 0,.int .i64 0]⟩ := by kernel_rfl
@[simp] theorem v7 : aN Tryz.prog 56 = some ⟨.struct #[{ name := "Env",type := 27,offset := 0,embedded := true,tag := "",pkgPath := "",byteOffset := 0 },{ name := "stack",type := 23,offset := 34,embedded := false,tag := "",pkgPath := "lightclient/script",byteOffset := 48 },{ name := "branches",type := 54,offset := 35,embedded := false,tag := "",pkgPath := "lightclient/script",byteOffset := 72 },{ name := "cost",type := 3,offset := 36,embedded := false,tag := "",pkgPath := "lightclient/script",byteOffset := 96 }],37,104,.agg #[.int .u8 0,.int .u8 0,.int .u8 0,.int .u8 0,.int .u8 0,.int .u8 0,.int .u8 0,.int .u8 0,.int .u8 0,.int .u8 0,.int .u8 0,.int .u8 0,.int .u8 0,.int .u8 0,.int .u8 0,.int .u8 0,.int .u8 0,.int .u8 0,.int .u8 0,.int .u8 0,.int .u8 0,.int .u8 0,.int .u8 0,.int .u8 0,.int .u8 0,.int .u8 0,.int .u8 0,.int .u8 0,.int .u8 0,.int .u8 0,.int .u8 0,.int .u8 0,.int .i64 0,.int .i64 0,.slice none 0 0,.slice none 0 0,.int .i64 0]⟩ := by kernel_rfl
@[simp] theorem aKT : aN Tryz.prog 57 = some ⟨.slice 60,1,24,.slice none 0 0⟩ := by kernel_rfl
@[simp] theorem aO3 : aN Tryz.prog 59 = some ⟨.struct #[{ name := "reached",type := 4,offset := 0,embedded := false,tag := "",pkgPath := "lightclient/lightclientref08",byteOffset := 0 },{ name := "done",type := 4,offset := 1,embedded := false,tag := "",pkgPath := "lightclient/lightclientref08",byteOffset := 1 }],2,2,.agg #[.bool false,.bool false]⟩ := by kernel_rfl
@[simp] theorem aDc : aN Tryz.prog 60 = some ⟨.struct #[{ name := "reached",type := 4,offset := 0,embedded := false,tag := "",pkgPath := "lightclient/lightclientref08",byteOffset := 0 },{ name := "done",type := 4,offset := 1,embedded := false,tag := "",pkgPath := "lightclient/lightclientref08",byteOffset := 1 }],2,2,.agg #[.bool false,.bool false]⟩ := by kernel_rfl
@[simp] theorem aOV : aN Tryz.prog 66 = some ⟨.int .u64,1,8,.int .u64 0⟩ := by kernel_rfl
@[simp] theorem aKM : aN Tryz.prog 70 = some ⟨.slice 4,1,24,.slice none 0 0⟩ := by kernel_rfl
@[simp] theorem aOG : aN Tryz.prog 71 = some ⟨.pointer 56,1,8,.pointer none⟩ := by kernel_rfl
@[simp] theorem aPB : aN Tryz.prog 72 = some ⟨.struct #[{ name := "outer",type := 4,offset := 0,embedded := false,tag := "",pkgPath := "lightclient/script",byteOffset := 0 },{ name := "taken",type := 4,offset := 1,embedded := false,tag := "",pkgPath := "lightclient/script",byteOffset := 1 }],2,2,.agg #[.bool false,.bool false]⟩ := by kernel_rfl
@[simp] theorem aA9 : aN Tryz.prog 73 = some ⟨.struct #[{ name := "outer",type := 4,offset := 0,embedded := false,tag := "",pkgPath := "lightclient/script",byteOffset := 0 },{ name := "taken",type := 4,offset := 1,embedded := false,tag := "",pkgPath := "lightclient/script",byteOffset := 1 }],2,2,.agg #[.bool false,.bool false]⟩ := by kernel_rfl
@[simp] theorem j7 : aN Tryz.prog 90 = some ⟨.int .u64,1,8,.int .u64 0⟩ := by kernel_rfl
@[simp] theorem aFa : aN Tryz.prog 91 = some ⟨.array 8 41,8,32,.agg #[.int .u32 0,.int .u32 0,.int .u32 0,.int .u32 0,.int .u32 0,.int .u32 0,.int .u32 0,.int .u32 0]⟩ := by kernel_rfl
@[simp] theorem aKv : aN Tryz.prog 93 = some ⟨.array 64 5,64,64,.agg #[.int .u8 0,.int .u8 0,.int .u8 0,.int .u8 0,.int .u8 0,.int .u8 0,.int .u8 0,.int .u8 0,.int .u8 0,.int .u8 0,.int .u8 0,.int .u8 0,.int .u8 0,.int .u8 0,.int .u8 0,.int .u8 0,.int .u8 0,.int .u8 0,.int .u8 0,.int .u8 0,.int .u8 0,.int .u8 0,.int .u8 0,.int .u8 0,.int .u8 0,.int .u8 0,.int .u8 0,.int .u8 0,.int .u8 0,.int .u8 0,.int .u8 0,.int .u8 0,.int .u8 0,.int .u8 0,.int .u8 0,.int .u8 0,.int .u8 0,.int .u8 0,.int .u8 0,.int .u8 0,.int .u8 0,.int .u8 0,.int .u8 0,.int .u8 0,.int .u8 0,.int .u8 0,.int .u8 0,.int .u8 0,.int .u8 0,.int .u8 0,.int .u8 0,.int .u8 0,.int .u8 0,.int .u8 0,.int .u8 0,.int .u8 0,.int .u8 0,.int .u8 0,.int .u8 0,.int .u8 0,.int .u8 0,.int .u8 0,.int .u8 0,.int .u8 0]⟩ := by kernel_rfl
@[simp] theorem aPy : aN Tryz.prog 95 = some ⟨.array 4 90,4,32,.agg #[.int .u64 0,.int .u64 0,.int .u64 0,.int .u64 0]⟩ := by kernel_rfl
@[simp] theorem bV : aN Tryz.prog 96 = some ⟨.array 4 90,4,32,.agg #[.int .u64 0,.int .u64 0,.int .u64 0,.int .u64 0]⟩ := by kernel_rfl
@[simp] theorem aPc : aN Tryz.prog 99 = some ⟨.struct #[{ name := "E",type := 96,offset := 0,embedded := false,tag := "",pkgPath := "",byteOffset := 0 },{ name := "S",type := 96,offset := 4,embedded := false,tag := "",pkgPath := "",byteOffset := 32 }],8,64,.agg #[.int .u64 0,.int .u64 0,.int .u64 0,.int .u64 0,.int .u64 0,.int .u64 0,.int .u64 0,.int .u64 0]⟩ := by kernel_rfl
@[simp] theorem nO : aN Tryz.prog 100 = some ⟨.struct #[{ name := "E",type := 96,offset := 0,embedded := false,tag := "",pkgPath := "",byteOffset := 0 },{ name := "S",type := 96,offset := 4,embedded := false,tag := "",pkgPath := "",byteOffset := 32 }],8,64,.agg #[.int .u64 0,.int .u64 0,.int .u64 0,.int .u64 0,.int .u64 0,.int .u64 0,.int .u64 0,.int .u64 0]⟩ := by kernel_rfl
@[simp] theorem aIA : aN Tryz.prog 105 = some ⟨.array 64 41,64,256,.agg #[.int .u32 0,.int .u32 0,.int .u32 0,.int .u32 0,.int .u32 0,.int .u32 0,.int .u32 0,.int .u32 0,.int .u32 0,.int .u32 0,.int .u32 0,.int .u32 0,.int .u32 0,.int .u32 0,.int .u32 0,.int .u32 0,.int .u32 0,.int .u32 0,.int .u32 0,.int .u32 0,.int .u32 0,.int .u32 0,.int .u32 0,.int .u32 0,.int .u32 0,.int .u32 0,.int .u32 0,.int .u32 0,.int .u32 0,.int .u32 0,.int .u32 0,.int .u32 0,.int .u32 0,.int .u32 0,.int .u32 0,.int .u32 0,.int .u32 0,.int .u32 0,.int .u32 0,.int .u32 0,.int .u32 0,.int .u32 0,.int .u32 0,.int .u32 0,.int .u32 0,.int .u32 0,.int .u32 0,.int .u32 0,.int .u32 0,.int .u32 0,.int .u32 0,.int .u32 0,.int .u32 0,.int .u32 0,.int .u32 0,.int .u32 0,.int .u32 0,.int .u32 0,.int .u32 0,.int .u32 0,.int .u32 0,.int .u32 0,.int .u32 0,.int .u32 0]⟩ := by kernel_rfl
@[simp] theorem aCE : aN Tryz.prog 131 = some ⟨.array 8 90,8,64,.agg #[.int .u64 0,.int .u64 0,.int .u64 0,.int .u64 0,.int .u64 0,.int .u64 0,.int .u64 0,.int .u64 0]⟩ := by kernel_rfl
@[simp] theorem aI2 : aN Tryz.prog 133 = some ⟨.slice 90,1,24,.slice none 0 0⟩ := by kernel_rfl
@[simp] theorem aLw : aN Tryz.prog 135 = some ⟨.slice 25,1,24,.slice none 0 0⟩ := by kernel_rfl
@[simp] theorem aN0 : aN Tryz.prog 148 = some ⟨.pointer 5,1,8,.pointer none⟩ := by kernel_rfl
end Go.Proofs.YtnllpckhipmpgaaGreatDoor
namespace Go.Vm
open Go Go.ChangeShapes Go.WideShapes Go.ChangeAt Go.RowKit
section
variable {X : Nat → Prop} {M : List (Option Nat)} {w : World}
theorem aLt (c : Value) : VR X M w (.sc c) c := by unfold VR; rfl
theorem qA : VCells X M w [] [] := by unfold VCells; rfl
theorem kU {c : V} {v : Value} {cs : List V} {vs : List Value} (h : VR X M w c v) (k : VCells X M w cs vs) : VCells X M w (c :: cs) (v :: vs) := by unfold VCells; exact ⟨v,vs,rfl,h,k⟩
theorem aNn {cs : List V} {vs : List Value} (k : VCells X M w cs vs) : VR X M w (.agg cs) (.agg vs.toArray) := by unfold VR; exact ⟨vs,rfl,k⟩
theorem aGo {P : Program} {ts : List TypeId} (h : (ts.all fun t => P.readableRec t && decide (t < P.types.size)) = true) : ∀ t ∈ ts,P.readableRec t = true ∧ t < P.types.size := by
 intro t ht
 have := List.all_eq_true.1 h t ht
 simp only [Bool.and_eq_true,decide_eq_true_eq] at this
 exact this
end
end Go.Vm
namespace Go.Proofs.YtnllpckhipmpgaaGreatDoor
open Go Go.Vm
open Go.ChangeShapes Go.WideShapes Go.ChangeAt Go.RowKit
theorem own : ownKnob Tryz.prog.godebug = none := by kernel_rfl
theorem aL1 : laidOutB Tryz.prog = true := by kernel_rfl
end Go.Proofs.YtnllpckhipmpgaaGreatDoor
namespace Go.Proofs.YtnllpckhipmpgaaGreatDoor
open Go Go.Vm
end Go.Proofs.YtnllpckhipmpgaaGreatDoor
namespace Go.Vm
open Go Go.ChangeShapes Go.WideShapes Go.ChangeAt Go.RowKit
def aAB (P : Program) (t : TypeId) {α : Type} (Q : α → Prop) (C : α → List V) : Prop :=
 ∀ {H : Type} {enc : TypeId × Value → H} {w : World} {spare : Nat → Bool} {held : Bool} {fuel : Nat} {cs : List Value} {x : DataW H × List MemPlace},DataW.trod enc P w 0 spare held fuel t cs = some x → ∃ a : α,Q a ∧ VCells sK [] w (C a) cs
section
variable {P : Program} {t e : TypeId}
theorem xP {k : IntKind} (ht : P.underlying t = some (.int k)) : aAB P t (fun x : Int => (Lit.int k x).wf = true) (fun x => [eI k x]) := by
 intro H enc w spare held fuel cs x h
 obtain ⟨n,rfl,_,hw⟩ := DataW.trod_int ht h
 exact ⟨n,hw,kU (aLt _) qA⟩
theorem aAL {α : Type} {R : Nat → α → Prop} : ∀ (n : Nat),(∀ i,i < n → ∃ x,R i x) → ∃ l : List α,l.length = n ∧ ∀ i x,l[i]? = some x → R i x
 | 0,_ => ⟨[],rfl,fun i x hx => by simp at hx⟩
 | n + 1,h => by
  obtain ⟨l,hl,hr⟩ := aAL n (fun i hi => h i (by omega))
  obtain ⟨x,hx⟩ := h n (by omega)
  refine ⟨l ++ [x],by simp [hl],fun i y hy => ?_⟩
  rcases dP hy with hy | ⟨hi,hy⟩
  ·exact hr i y hy
  ·subst hy; rw [hi,hl]; exact hx
theorem aIq {X : Nat → Prop} {M : List (Option Nat)} {w : World} {K : Nat} : ∀ (es : List V) (ad : Addr),(∀ i e,es[i]? = some e → ∃ v,VR X M w e v ∧ v.cells.size = K ∧ LiesAt w (ad.add (i * K)) v.cells) → VRow X M w K es ad
 | [],ad,_ => by unfold VRow; trivial
 | e :: es,ad,h => by
  unfold VRow
  obtain ⟨v,h1,h2,h3⟩ := h 0 e rfl
  refine ⟨⟨v,h1,h2,by simpa [Addr.add] using h3⟩,aIq es (ad.add K) fun i e' he => ?_⟩
  obtain ⟨v',k1,k2,k3⟩ := h (i + 1) e' (by simpa using he)
  refine ⟨v',k1,k2, ?_⟩
  rw [qP,show K + i * K = (i + 1) * K by rw [Nat.add_mul]; omega]
  exact k3
def aKz {α : Type} (K : Nat) (C : α → List V) (E : α → V) : Prop := ∀ x,(E x).okElem K = true ∧ ∀ (w : World) (vs : List Value),VCells sK [] w (C x) vs → ∃ v,VR sK [] w (E x) v ∧ v.cells = vs.toArray
theorem aDq {α : Type} {E : α → V} (h : ∀ x,(E x).one = true) : aKz 1 (fun x => [E x]) E := by
 intro x
 have hc : (E x).cells = [E x] := by have := h x; generalize E x = y at this ⊢; cases y <;> first | rfl | simp [V.one] at this
 refine ⟨by simp [V.okElem,V.flatOk,hc,h x],fun w vs hv => ?_⟩
 unfold VCells at hv
 obtain ⟨v,rest,rfl,h1,h2⟩ := hv
 unfold VCells at h2
 subst h2
 exact ⟨v,h1,by rw [dH (h1.oneCell (h x))]⟩
theorem aDa {α : Type} {Q : α → Prop} {C : α → List V} {E : α → V} {K : Nat} (ht : P.underlying t = some (.slice e)) (he : aAB P e Q C) (hK : P.cellsOf e = K) (h0 : 0 < K) (hE : aKz K C E) :
  aAB P t (fun l : List α => ∀ x ∈ l,Q x) (fun l => [.row none K (l.map E)]) := by
 intro H enc w spare held fuel cs x h
 rcases DataW.trod_slice ht h with ⟨rfl,_⟩ | ⟨a,len,cap,elems,rest,n,_,rfl,_,_,hl,hm,hlen,hel,_,_⟩
 ·refine ⟨[],by simp,kU ?_ qA⟩
  unfold VR
  exact ⟨none,0,rfl,Nat.le_refl _,fun _ => rfl,(fun b hb => by cases hb),by simp,fun hne => absurd rfl hne⟩
 ·have each : ∀ i,i < len → ∃ x,Q x ∧ ∃ vs,w.cells? 0 (a.add (i * K)) K = some vs ∧ VCells sK [] w (C x) vs := by
   intro i hi
   have h1 := hel i hi
   rw [hK,List.getElem?_eq_getElem (by omega)] at h1
   simp only [Option.bind_eq_some_iff] at h1
   obtain ⟨vs,h2,h3⟩ := h1
   obtain ⟨x,hq,hv⟩ := he h3
   exact ⟨x,hq,vs,h2,hv⟩
  obtain ⟨l,hll,hr⟩ := aAL len each
  have hlm : (l.map E).length = len := by simp [hll]
  refine ⟨l,fun x hx => ?_,kU ?_ qA⟩
  ·obtain ⟨i,hi,rfl⟩ := List.mem_iff_getElem.1 hx
   exact (hr i _ (List.getElem?_eq_getElem hi)).1
  ·unfold VR
   refine ⟨some a,cap,by rw [hlm],by rw [hlm]; exact hl,fun hh => (by cases hh),(fun b hb => by cases hb),fun y hy => ?_,fun hne => ?_⟩
   ·simp only [List.mem_map] at hy
    obtain ⟨x,_,rfl⟩ := hy
    exact (hE x).1
   ·have hpos : 0 < len := by
     rcases Nat.eq_zero_or_pos len with h0 | h0
     ·exact absurd (List.eq_nil_of_length_eq_zero (by rw [hlm]; exact h0)) hne
     ·exact h0
    have lies : ∀ (ad : Addr) (vs : List Value),w.cells? 0 ad K = some vs → vs.length = K ∧ LiesAt w ad vs.toArray := by
     intro ad vs hvs
     obtain ⟨h1,h2⟩ := World.cells?_some hvs
     have h3 : vs.length = K ∧ ∀ i,i < K → w.cell? (ad.add i) = vs[i]? := by
      unfold World.cells? at hvs
      rw [if_pos (Nat.zero_le _)] at hvs
      obtain ⟨hl,hget⟩ := aBb hvs
      simp only [List.length_range] at hl
      refine ⟨hl.symm,fun i hi => ?_⟩
      have hv : i < vs.length := by omega
      rw [List.getElem?_eq_getElem hv]
      exact hget i i vs[i] (by simp [hi]) (List.getElem?_eq_getElem hv)
     refine ⟨h3.1,fun j u hu => ?_⟩
     have hj : j < K := by have := (Array.getElem?_eq_some_iff.1 hu).1; simp at this; omega
     rw [h3.2 j hj]; simpa using hu
    obtain ⟨x0,_,vs0,hc0,_⟩ := each 0 hpos
    obtain ⟨hl0,hlies0⟩ := lies _ _ hc0
    have hsp : a.spot = none := by
     have hv : 0 < vs0.length := by omega
     have := World.cell?_spot (hlies0 0 vs0[0] (by simp [hv]))
     simpa [Addr.add] using this
    refine ⟨a,rfl,h0,id,hsp,aIq _ _ fun i y hy => ?_⟩
    simp only [List.getElem?_map,Option.map_eq_some_iff] at hy
    obtain ⟨x,hx,rfl⟩ := hy
    obtain ⟨_,vs,hcs,hv⟩ := hr i x hx
    obtain ⟨hl1,hlies⟩ := lies _ _ hcs
    obtain ⟨v,hv1,hv2⟩ := (hE x).2 w vs hv
    exact ⟨v,hv1,by rw [hv2]; simp [hl1],by rw [hv2]; exact hlies⟩
def aLp (P : Program) (t : TypeId) {α : Type} (Q : α → Prop) (E : α → V) : Prop :=
 ∀ {H : Type} {enc : TypeId × Value → H} {w : World} {base : Nat} {v : Value} {d : DataW H} {p : List MemPlace},Value.okWide P w .any base t v → DataW.Trod enc P w 0 (fun _ => true) true t v d p → ∃ a : α,Q a ∧ VR sK [] w (E a) v
theorem aC4 {w : World} {c : V} {v : Value} (h : VCells sK [] w [c] [v]) : VR sK [] w c v := by
 unfold VCells at h
 obtain ⟨u,rest,h1,h2,_⟩ := h
 injection h1 with h1 h3
 subst h1
 exact h2
theorem aC3 {α : Type} {Q : α → Prop} {C : α → List V} {E : α → V} {K : Nat} (ht : P.underlying t = some (.slice e)) (he : aAB P e Q C) (hK : P.cellsOf e = K) (h0 : 0 < K) (hE : aKz K C E) : aLp P t (fun l : List α => ∀ x ∈ l,Q x) (eL K E) := by
 intro H enc w base v d p hv ⟨fuel,h⟩
 obtain ⟨a,l,c,rfl⟩ := okWide_slice ht hv
 obtain ⟨a,hq,hc⟩ := aDa ht he hK h0 hE h
 exact ⟨a,hq,aC4 hc⟩
theorem aG6 {α : Type} {Q : α → Prop} {C : α → List V} {fs : Array Field} (ht : P.underlying t = some (.struct fs)) (ho : aAB P t Q C) : aLp P t Q (fun x => .agg (C x)) := by
 intro H enc w base v d p hv ⟨fuel,h⟩
 obtain ⟨cs,rfl,_⟩ := okWide_struct ht hv
 obtain ⟨a,hq,hc⟩ := ho h
 exact ⟨a,hq,by have := aNn hc; simpa [Value.cells] using this⟩
end
end Go.Vm
namespace Go.Proofs.YtnllpckhipmpgaaGreatDoor
open Go Go.Vm
open Go.ChangeShapes Go.WideShapes Go.ChangeAt Go.RowKit
theorem aH5 {W : World} {g : Nat} {xs : List Int} (hne : 0 < xs.length) (hc : ∀ i,i < xs.length → W.cell? ⟨g,i,none⟩ = some (.int .u32 (xs.getD i 0))) : VR sK [] W (.eptr [.agg (xs.map fun x => .sc (.int .u32 x))] 0 0) (.pointer (some ⟨g,0,none⟩)) := by
 unfold VR
 refine ⟨⟨g,0,none⟩,xs.length,by simp [Addr.add],hne,fun _ hx => hx,rfl, ?_, ?_⟩
 ·intro e he
  simp only [List.mem_singleton] at he
  subst he
  simp [V.okElem,V.flatOk,V.cells,V.one,List.all_map]
  exact fun _ _ => rfl
 ·unfold VRow
  refine ⟨⟨.agg (xs.map fun x => Value.int .u32 x).toArray, ?_,by simp [Value.cells], ?_⟩,by unfold VRow; trivial⟩
  ·unfold VR
   refine ⟨xs.map fun x => Value.int .u32 x,rfl, ?_⟩
   generalize xs = ys
   induction ys with
   | nil => exact qA
   | cons y ys ih => exact kU (aLt _) ih
  ·intro j u hu
   simp only [Value.cells,List.getElem?_toArray,List.getElem?_map,Option.map_eq_some_iff] at hu
   obtain ⟨x,hx,rfl⟩ := hu
   have hj := (List.getElem?_eq_some_iff.1 hx).1
   have := hc j hj
   simp only [List.getD_eq_getElem?_getD,hx,Option.getD_some] at this
   have e : (⟨g,0,none⟩ : Addr).add j = ⟨g,j,none⟩ := by simp only [Addr.add]; split <;> simp_all
   rw [e]; exact this
theorem gK : Tryz.prog.globalNamed "lightclient/sha.k" = some 1 := by kernel_rfl
theorem gKt : (Tryz.prog.globals[1]?).map (·.type) = some 105 := by kernel_rfl
theorem gI : Tryz.prog.globalNamed "lightclient/sha.initial" = some 0 := by kernel_rfl
theorem gIt : (Tryz.prog.globals[0]?).map (·.type) = some 91 := by kernel_rfl
theorem aLY : Tryz.prog.cellsOf 105 = 64 := by kernel_rfl
theorem aNo : Tryz.prog.cellsOf 91 = 8 := by kernel_rfl
theorem aJJ : Tryz.prog.cellsOf 41 = 1 := by kernel_rfl
theorem aOT {W : World} (h : laidMetH Tryz.prog [("lightclient/sha.k",Rows.laid_lightclient_sha_k),("lightclient/sha.initial",Rows.laid_lightclient_sha_initial)] W) : Lib.TabIs Tryz.prog W "lightclient/sha.k" .u32 aAF :=
 Lib.tabIs_of_head (rest := [("lightclient/sha.initial",Rows.laid_lightclient_sha_initial)]) gK gKt Tryz.underlying105 Tryz.underlying41 aJJ aLY h
theorem aO7 {W : World} (h : laidMetH Tryz.prog [("lightclient/sha.k",Rows.laid_lightclient_sha_k),("lightclient/sha.initial",Rows.laid_lightclient_sha_initial)] W) : Lib.TabIs Tryz.prog W "lightclient/sha.initial" .u32 tG := by
 have h2 := h.filter (fun x => x.1 == "lightclient/sha.initial")
 exact Lib.tabIs_of_head (rest := []) gI gIt Tryz.underlying91 Tryz.underlying41 aJJ aNo h2
theorem aN6 {W : World} (h : laidMetH Tryz.prog [("lightclient/sha.k",Rows.laid_lightclient_sha_k),("lightclient/sha.initial",Rows.laid_lightclient_sha_initial)] W) : Globs sK W := by
 intro g e hg
 unfold GT at hg
 split at hg
 ·injection hg with hg
  subst hg
  exact aH5 (xs := tG) (by decide) (fun i hi => (aO7 h).cell gI i hi)
 ·injection hg with hg
  subst hg
  exact aH5 (xs := aAF) (by decide) (fun i hi => (aOT h).cell gK i hi)
 ·cases hg
theorem aCm {l : List Int} (hl : ∀ x ∈ l,(Lit.int .u8 x).wf = true) : Byt l := by
 intro x hx
 have := hl x hx
 simp [Lit.wf,IntKind.min,IntKind.max,IntKind.signed,IntKind.bits] at this; omega
def lay (i : Nat) (cs : Array Value) (h : Array Obj) : Array Obj := h.modify i fun
 | .cells _ t frozen => .cells cs t frozen
 | o => o
noncomputable def aBV (os : Os) : World :=
 { World.holding Tryz.prog os ⟨#[],#[],[]⟩ with heap := lay 1 #[.int .u32 1116352408,.int .u32 1899447441,.int .u32 3049323471,.int .u32 3921009573,.int .u32 961987163,.int .u32 1508970993,.int .u32 2453635748,.int .u32 2870763221,.int .u32 3624381080,.int .u32 310598401,.int .u32 607225278,.int .u32 1426881987,.int .u32 1925078388,.int .u32 2162078206,.int .u32 2614888103,.int .u32 3248222580,.int .u32 3835390401,.int .u32 4022224774,.int .u32 264347078,.int .u32 604807628,.int .u32 770255983,.int .u32 1249150122,.int .u32 1555081692,.int .u32 1996064986,.int .u32 2554220882,.int .u32 2821834349,.int .u32 2952996808,.int .u32 3210313671,.int .u32 3336571891,.int .u32 3584528711,.int .u32 113926993,.int .u32 338241895,.int .u32 666307205,.int .u32 773529912,.int .u32 1294757372,.int .u32 1396182291,.int .u32 1695183700,.int .u32 1986661051,.int .u32 2177026350,.int .u32 2456956037,.int .u32 2730485921,.int .u32 2820302411,.int .u32 3259730800,.int .u32 3345764771,.int .u32 3516065817,.int .u32 3600352804,.int .u32 4094571909,.int .u32 275423344,.int .u32 430227734,.int .u32 506948616,.int .u32 659060556,.int .u32 883997877,.int .u32 958139571,.int .u32 1322822218,.int .u32 1537002063,.int .u32 1747873779,.int .u32 1955562222,.int .u32 2024104815,.int .u32 2227730452,.int .u32 2361852424,.int .u32 2428436474,.int .u32 2756734187,.int .u32 3204031479,.int .u32 3329325298] (lay 0 #[.int .u32 1779033703,.int .u32 3144134277,.int .u32 1013904242,.int .u32 2773480762,.int .u32 1359893119,.int .u32 2600822924,.int .u32 528734635,.int .u32 1541459225] (World.holding Tryz.prog os ⟨#[],#[],[]⟩).heap) }
end Go.Proofs.YtnllpckhipmpgaaGreatDoor
namespace Go.Vm
open Go
def aIW (O : tD) (G : FuncId → Bool) : Prop := ∀ f h args r h',G f = true → O f h args = some (r,h') → ∃ news,h' = h ++ news
def aDQ (G : FuncId → Bool) (o : Oper) : Bool :=
 aA3 o || (match o.op with
  | .call c => match c.callee with
   | .value (.func f) => G f
   | .builtin .append => match c.args.toList with
    | [.const (.slice none 0 0),_] => true
    | _ => false
   | _ => false
  | _ => false)
theorem aHC {P : Program} {t t' : TypeId} {k : Nat} {y r : V} {h h' : Hp} (hr : jR P t t' (.row (some true) k []) y h = some (r,h')) : ∃ news,h' = h ++ news := by
 simp only [jR] at hr
 repeat' split at hr
 all_goals first | (cases hr; done) | (simp only [Option.some.injEq,Prod.mk.injEq] at hr; exact ⟨_,by rw [← hr.2,List.append_assoc]⟩)
def aLk (O : tD) (F : FuncId → Bool) : Prop := ∀ f h args r h',F f = true → O f h args = some (r,h') → ∀ h2,O f h2 args = some (r,h2)
def aDS (F : FuncId → Bool) (o : Oper) : Bool :=
 match o.op with
 | .move _ | .assign _ | .nilCheck _ | .binOp _ _ _ _ _ | .unOp _ _ _ | .fieldAddr _ _ _ | .field _ _ _ | .indexAddr _ _ _ | .index _ _ _ | .extract _ _ | .sliceToArrayPointer _ _ => true
 | .call c => match c.callee with
  | .value (.func f) => F f
  | _ => false
 | _ => false
def aGj (F G : FuncId → Bool) (ops : Array Oper) (oj oi : Oper) : Bool :=
 oj.apart ops oi && (aDS F oj || aDS F oi || (s6 F oj && s6 F oi) || (aDQ G oj && xZ oi) || (xZ oj && aDQ G oi))
section
variable {P : Program} {O O' : tD} {F G : FuncId → Bool} {s : List V} {h h' : Hp} {ops : Array Oper}
theorem inScope.mono {n m : Nat} (hnm : n ≤ m) {z : V} (hz : inScope n z) : inScope m z := by
 cases z <;> first | trivial | exact Nat.lt_of_lt_of_le hz hnm
theorem Scoped.mono {n m : Nat} (hnm : n ≤ m) {o : Oper} (hs : Scoped s o n) : Scoped s o m := fun y hy z hz => (hs y hy z hz).mono hnm
theorem zT {o : Oper} (hs : xZ o = true) : ∀ (news : Hp) {h : Hp},Scoped s o h.length → b7 P O ops o s (h ++ news) = (b7 P O ops o s h).map fun p => (p.1,h ++ news)
 | [],h,hsc => by
  simp only [List.append_nil]
  cases hv : b7 P O ops o s h with
  | none => rfl
  | some p =>
   obtain ⟨v,g⟩ := p
   obtain rfl : g = h := rH (F := fun _ => false) (fun _ _ _ _ _ hf => by cases hf) hs hv
   rfl
 | x :: news,h,hsc => by
  have e1 : h ++ x :: news = (h ++ [x]) ++ news := by simp
  rw [e1,zT hs news (hsc.mono (by simp)),aHZ hs hsc]
  cases b7 P O ops o s h <;> rfl
theorem aCg (hG : aIW O G) {o : Oper} (hg : aDQ G o = true) {r : V} (hr : b7 P O ops o s h = some (r,h')) : ∃ news,h' = h ++ news := by
 unfold b7 at hr
 split at hr
 ·rename_i hw
  clear hw
  simp only [aDQ,Bool.or_eq_true] at hg
  rcases hg with hg | hg
  ·obtain ⟨B,hB⟩ := aIx hg hr; exact ⟨_,hB⟩
  ·obtain ⟨dst,op,type,pos,after,guard⟩ := o
   cases op <;> simp only [Bool.false_eq_true] at hg
   case call c =>
    obtain ⟨callee,args,argTypes⟩ := c
    cases callee <;> simp only [Bool.false_eq_true] at hg
    case value f =>
     cases f <;> simp only [Bool.false_eq_true] at hg
     case func f =>
      simp only [bF,sT] at hr
      split at hr
      ·cases hr
      ·exact hG _ _ _ _ _ hg hr
    case builtin b =>
     cases b <;> simp only [Bool.false_eq_true] at hg
     case append =>
      split at hg
      ·rename_i y he
       simp only [bF,sT,he] at hr
       cases hy : ev s y with
       | none =>
        have h2 : wA s [.const (.slice none 0 0),y] = none := by simp only [wA,List.mapM_cons,List.mapM_nil,hy,show ev s (.const (.slice none 0 0)) = some (.row (some true) 1 []) from rfl]; rfl
        rw [h2] at hr
        cases hr
       | some z =>
        have h2 : wA s [.const (.slice none 0 0),y] = some [.row (some true) 1 [],z] := by simp only [wA,List.mapM_cons,List.mapM_nil,hy,show ev s (.const (.slice none 0 0)) = some (.row (some true) 1 []) from rfl]; rfl
        rw [h2] at hr
        revert hr
        rcases argTypes.toList with _ | ⟨t,_ | ⟨t',_ | ⟨t'',l⟩⟩⟩ <;> intro hr
        ·cases hr
        ·cases hr
        ·exact aHC hr
        ·cases hr
      ·cases hg
 ·simp only [Option.some.injEq,Prod.mk.injEq] at hr; exact ⟨[],by simp [hr.2]⟩
 ·cases hr
theorem aGz (hF : aAR O F) (hU : aLk O F) {o : Oper} (hf : aDS F o = true) {r : V} (hr : b7 P O ops o s h = some (r,h')) : h' = h ∧ ∀ h2,b7 P O ops o s h2 = some (r,h2) := by
 unfold b7 at hr ⊢
 cases hw : jS ops o s with
 | none => rw [hw] at hr; cases hr
 | some b =>
  rw [hw] at hr
  cases b with
  | false =>
   simp only [Option.some.injEq,Prod.mk.injEq] at hr ⊢
   exact ⟨hr.2.symm,fun h2 => ⟨hr.1,trivial⟩⟩
  | true =>
   simp only at hr ⊢
   clear hw
   obtain ⟨dst,op,type,pos,after,guard⟩ := o
   cases op <;> simp only [aDS,Bool.false_eq_true] at hf
   case call c =>
    obtain ⟨callee,args,argTypes⟩ := c
    cases callee <;> simp only [Bool.false_eq_true] at hf
    case value f =>
     cases f <;> simp only [Bool.false_eq_true] at hf
     case func f =>
      simp only [bF,sT] at hr ⊢
      cases hx : wA s args.toList with
      | none => rw [hx] at hr; cases hr
      | some xs =>
       rw [hx] at hr
       simp only at hr ⊢
       exact ⟨hF _ _ _ _ _ hf hr,hU _ _ _ _ _ hf hr⟩
   all_goals
    simp only [bF,Option.bind_eq_some_iff,Option.map_eq_some_iff,Prod.mk.injEq] at hr
    first
     | (obtain ⟨a,ha,rfl,rfl⟩ := hr; exact ⟨rfl,fun h2 => by simp [bF,ha]⟩)
     | (obtain ⟨a,ha,b,hb,rfl,rfl⟩ := hr; exact ⟨rfl,fun h2 => by simp [bF,ha,hb]⟩)
     | (obtain ⟨a,ha,b,hb,c,hc,rfl,rfl⟩ := hr; exact ⟨rfl,fun h2 => by simp [bF,ha,hb,hc]⟩)
def StepR (P : Program) (F G : FuncId → Bool) (ops : Array Oper) (o : Oper) (s : List V) (h : Hp) (s1 : List V) (h1 : Hp) : Prop :=
 ∃ O,aAs P O ∧ aAR O F ∧ aIW O G ∧ aLk O F ∧ wI P O ops o s h = some (s1,h1)
theorem StepR.comm {oj oi : Oper} (hp : aGj F G ops oj oi = true) (hsi : Scoped s oi h.length) (hsj : Scoped s oj h.length) {s1 s2 : List V} {h1 h2 : Hp}
  (e1 : StepR P F G ops oj s h s1 h1) (e2 : StepR P F G ops oi s1 h1 s2 h2) : ∃ s3 h3,StepR P F G ops oi s h s3 h3 ∧ StepR P F G ops oj s3 h3 s2 h2 := by
 obtain ⟨O1,ok1,hF1,hG1,hU1,e1⟩ := e1
 obtain ⟨O2,ok2,hF2,hG2,hU2,e2⟩ := e2
 simp only [aGj,Bool.and_eq_true,Bool.or_eq_true] at hp
 obtain ⟨hap,hp⟩ := hp
 obtain ⟨a1,a2,a3⟩ := Oper.apart_spec hap
 rw [d6] at e1 e2
 simp only [Option.map_eq_some_iff,Prod.mk.injEq] at e1 e2
 obtain ⟨⟨v1,g1⟩,f1,rfl,rfl⟩ := e1
 obtain ⟨⟨v2,g2⟩,f2,rfl,rfl⟩ := e2
 simp only at f1 f2 ⊢
 rw [qR oi _ _ a1] at f2
 rcases hp with (((hj | hi) | ⟨hj,hi⟩) | ⟨hj,hi⟩) | ⟨hj,hi⟩
 ·obtain ⟨rfl,hall⟩ := aGz hF1 hU1 hj f1
  refine ⟨jJ s oi.dst v2,g2,⟨O2,ok2,hF2,hG2,hU2,by rw [d6,f2]; rfl⟩,O1,ok1,hF1,hG1,hU1, ?_⟩
  rw [d6,qR oj _ _ a3,hall g2]
  simp only [Option.map_some]
  rw [xQ s v1 v2 a2]
 ·obtain ⟨rfl,hall⟩ := aGz hF2 hU2 hi f2
  refine ⟨jJ s oi.dst v2,h,⟨O2,ok2,hF2,hG2,hU2,by rw [d6,hall h]; rfl⟩,O1,ok1,hF1,hG1,hU1, ?_⟩
  rw [d6,qR oj _ _ a3,f1]
  simp only [Option.map_some]
  rw [xQ s v1 v2 a2]
 ·obtain rfl := rH hF1 hj f1
  obtain rfl := rH hF2 hi f2
  refine ⟨jJ s oi.dst v2,_,⟨O2,ok2,hF2,hG2,hU2,by rw [d6,f2]; rfl⟩,O1,ok1,hF1,hG1,hU1, ?_⟩
  rw [d6,qR oj _ _ a3,f1]
  simp only [Option.map_some]
  rw [xQ s v1 v2 a2]
 ·obtain ⟨news,rfl⟩ := aCg hG1 hj f1
  rw [zT hi news hsi] at f2
  simp only [Option.map_eq_some_iff,Prod.mk.injEq] at f2
  obtain ⟨⟨v3,g3⟩,f3,rfl,rfl⟩ := f2
  obtain rfl : g3 = h := rH (F := fun _ => false) (fun _ _ _ _ _ hf => by cases hf) hi f3
  refine ⟨jJ s oi.dst v3,g3,⟨O2,ok2,hF2,hG2,hU2,by rw [d6,f3]; rfl⟩,O1,ok1,hF1,hG1,hU1, ?_⟩
  rw [d6,qR oj _ _ a3,f1]
  simp only [Option.map_some]
  rw [xQ s v1 v3 a2]
 ·obtain rfl : g1 = h := rH (F := fun _ => false) (fun _ _ _ _ _ hf => by cases hf) hj f1
  refine ⟨jJ s oi.dst v2,g2,⟨O2,ok2,hF2,hG2,hU2,by rw [d6,f2]; rfl⟩,O1,ok1,hF1,hG1,hU1, ?_⟩
  obtain ⟨news,rfl⟩ := aCg hG2 hi f2
  rw [d6,qR oj _ _ a3,zT hj news hsj,f1]
  simp only [Option.map_some]
  rw [xQ s v1 v2 a2]
def aIE (s : List V) (h : Hp) : Prop := ∃ A M a w,Rel A M s h a w
theorem StepR.real {i : Nat} {o : Oper} (hi : ops[i]? = some o) {s1 : List V} {h1 : Hp} (hr : aIE s h) (e : StepR P F G ops o s h s1 h1) : aIE s1 h1 := by
 obtain ⟨A,M,a,w,R⟩ := hr
 obtain ⟨O,ok,_,_,_,e⟩ := e
 obtain ⟨a',w',M',R'⟩ := aHU (aBx (Q := fun _ _ _ => False) ok R hi e (K := fun a' w' => ∃ M',Rel A M' s1 h1 a' w') fun a' w' M' _ R' => ⟨M',R'⟩)
 exact ⟨A,M',a',w',R'⟩
def aNV (P : Program) (N : Nat) (ops : Array Oper) (m : Nat) (listed : Array Bool) (s : List V) (h : Hp) (K : List V → Hp → Prop) : Prop :=
 ∀ (A : Nat → Prop) (M0 M : List (Option Nat)) (h0 : Hp) (w0 : World) (a : Act) (w : World) (Q : Exit → Act → World → Prop),h0.length = N → M0.length = N → Grow A M0 h0 w0 M h w → Rel A M s h a w →
  (∀ s' h' M' a' w',K s' h' → Grow A M0 h0 w0 M' h' w' → Rel A M' s' h' a' w' → Q .normal a' w') → wpAny P .any ops Q m listed a w
def aGy (ops : Array Oper) (listed : Array Bool) : Bool :=
 (List.range ops.size).all fun j => listed.getD j true || (List.range ops.size).all fun i => !(listed.getD i false) || (aHq ops j j [j]).contains i
def Good (P : Program) (N : Nat) (F G : FuncId → Bool) (ops : Array Oper) (K : List V → Hp → Prop) : Nat → Array Bool → List V → Hp → Prop
 | 0,listed,s,h => aAo ops.size listed = [] ∧ K s h
 | n + 1,listed,s,h => (aGy ops listed = true ∧ aNV P N ops (n + 1) listed s h K) ∨ (aIE s h → Region.ready .any ops listed ≠ [] ∧ ∀ i ∈ Region.ready .any ops listed,∃ o s1 h1,ops[i]? = some o ∧ StepR P F G ops o s h s1 h1 ∧ Good P N F G ops K n (listed.setIfInBounds i true) s1 h1)
theorem aJi {listed : Array Bool} {i : Nat} (hi : i ∈ Region.ready .any ops listed) : i ∈ aAo ops.size listed := by
 obtain ⟨h1,o,ho,_⟩ := mem_ready.1 hi
 simp only [aAo,List.mem_filter,List.mem_range]
 exact ⟨(Array.getElem?_eq_some_iff.1 ho).1,by simp [h1]⟩
theorem Good.sound {N : Nat} {A : Nat → Prop} {M0 : List (Option Nat)} {h0 : Hp} (hN : h0.length = N) (hM : M0.length = N) {w0 : World} {K : List V → Hp → Prop} {Q : Exit → Act → World → Prop} :
  ∀ (n : Nat) (listed : Array Bool) {M : List (Option Nat)} {s : List V} {h : Hp} {a : Act} {w : World},Good P N F G ops K n listed s h → Grow A M0 h0 w0 M h w → Rel A M s h a w →
  (∀ s' h' M' a' w',K s' h' → Grow A M0 h0 w0 M' h' w' → Rel A M' s' h' a' w' → Q .normal a' w') → wpAny P .any ops Q n listed a w
 | 0,listed,M,s,h,a,w,hg,Gr,R,hQ => by
  obtain ⟨hnil,hk⟩ := hg
  refine ⟨?_,hQ s h M a w hk Gr R⟩
  apply List.eq_nil_iff_forall_not_mem.2
  intro i hi
  have := aJi hi
  rw [hnil] at this
  cases this
 | n + 1,listed,M,s,h,a,w,hg,Gr,R,hQ => by
  rcases hg with ⟨_,hg⟩ | hg
  ·exact hg A M0 M h0 w0 a w Q hN hM Gr R hQ
  obtain ⟨hne,hall⟩ := hg ⟨A,M,a,w,R⟩
  refine ⟨fun hn => absurd hn hne,fun i hi => ?_⟩
  obtain ⟨o,s1,h1,ho,⟨O,ok,_,_,_,e⟩,hg'⟩ := hall i hi
  refine aBx ok R ho e fun a' w' M' G' R' => ?_
  exact Good.sound hN hM n _ hg' (Gr.trans G') R' hQ
def aAZ (F G : FuncId → Bool) (ops : Array Oper) (listed : Array Bool) (i : Nat) : Bool :=
 (Region.ready .any ops listed).contains i && (match ops[i]? with
  | none => false
  | some oi => (List.range ops.size).all fun j => (j == i) || listed.getD j true || (match ops[j]? with
   | none => true
   | some oj => aGj F G ops oi oj || (aHq ops j j [j]).contains i))
theorem aBO {listed : Array Bool} {i : Nat} (d : Bool) (hi : i < listed.size) : (listed.setIfInBounds i true).getD i d = true := by simp [hi]
theorem aF7 (listed : Array Bool) (i j : Nat) : (listed.setIfInBounds i true).setIfInBounds j true = (listed.setIfInBounds j true).setIfInBounds i true := by
 by_cases hij : i = j
 ·subst hij; rfl
 ·apply Array.ext'
  apply List.ext_getElem?
  intro k
  simp only [Array.getElem?_toList,Array.getElem?_setIfInBounds]
  by_cases h1 : i = k <;> by_cases h2 : j = k <;> simp_all
theorem aJV {listed : Array Bool} {i j : Nat} {oj : Oper} (hi : i < ops.size) (hc : aCr ops listed) (hsz : listed.size = ops.size) (hcut : aGy ops (listed.setIfInBounds i true) = true) (hij : i ≠ j) (huni : listed.getD i true = false) (hunj : listed.getD j true = false) (hoj : ops[j]? = some oj) (hprej : ∀ e ∈ oj.after,Region.binds .any e = true → listed.getD e.on false = true) : False := by
 have hjn : j < ops.size := (Array.getElem?_eq_some_iff.1 hoj).1
 have h1 := List.all_eq_true.1 hcut j (by simpa using hjn)
 rw [getD_set_ne true hij,hunj] at h1
 simp only [Bool.false_or] at h1
 have h2 := List.all_eq_true.1 h1 i (by simpa using hi)
 rw [aBO false (by rw [hsz]; exact hi)] at h2
 simp only [Bool.not_true,Bool.false_or] at h2
 rcases aAI hc hoj hprej j [j] (by simp) i (by simpa using h2) with h4 | h4
 ·exact hij h4
 ·have := getD_both huni
  rw [h4] at this; cases this
theorem Good.pick {N : Nat} {K : List V → Hp → Prop} : ∀ (n : Nat) {listed : Array Bool} {s : List V} {h : Hp} {i : Nat} {oi : Oper} {s1 : List V} {h1 : Hp},listed.size = ops.size → aCr ops listed → aAZ F G ops listed i = true → ops[i]? = some oi → StepR P F G ops oi s h s1 h1 →
  Good P N F G ops K n (listed.setIfInBounds i true) s1 h1 → Good P N F G ops K (n + 1) listed s h
 | 0,listed,s,h,i,oi,s1,h1,hsz,hc,hp,hoi,e,hg => by
  refine .inr fun hr => ?_
  simp only [aAZ,Bool.and_eq_true] at hp
  have hi : i ∈ Region.ready .any ops listed := by simpa using hp.1
  refine ⟨(fun hn => by rw [hn] at hi; cases hi),fun j hj => ?_⟩
  by_cases hij : i = j
  ·subst hij; exact ⟨oi,s1,h1,hoi,e,hg⟩
  ·exfalso
   obtain ⟨hun,oj,hoj,_⟩ := mem_ready.1 hj
   have : j ∈ aAo ops.size (listed.setIfInBounds i true) := by
    simp only [aAo,List.mem_filter,List.mem_range]
    exact ⟨(Array.getElem?_eq_some_iff.1 hoj).1,by rw [getD_set_ne true hij,hun]; rfl⟩
   rw [hg.1] at this
   cases this
 | n + 1,listed,s,h,i,oi,s1,h1,hsz,hc,hp,hoi,e,hg => by
  refine .inr fun hr => ?_
  have hp0 := hp
  simp only [aAZ,Bool.and_eq_true] at hp
  have hi : i ∈ Region.ready .any ops listed := by simpa using hp.1
  obtain ⟨huni,_,hoi',hprei⟩ := mem_ready.1 hi
  obtain rfl : oi = _ := Option.some.inj (hoi.symm.trans hoi')
  refine ⟨(fun hn => by rw [hn] at hi; cases hi),fun j hj => ?_⟩
  by_cases hij : i = j
  ·subst hij; exact ⟨oi,s1,h1,hoi,e,hg⟩
  obtain ⟨hunj,oj,hoj,hprej⟩ := mem_ready.1 hj
  have hjn : j < ops.size := (Array.getElem?_eq_some_iff.1 hoj).1
  have hin : i < ops.size := (Array.getElem?_eq_some_iff.1 hoi).1
  have hj' : j ∈ Region.ready .any ops (listed.setIfInBounds i true) := mem_ready.2 ⟨by rw [getD_set_ne true hij]; exact hunj,oj,hoj,fun ed he hb => getD_set_true (hprej ed he hb)⟩
  have hr1 : aIE s1 h1 := e.real hoi hr
  rcases hg with ⟨hcut,_⟩ | hg
  ·exact (aJV hin hc hsz hcut hij huni hunj hoj hprej).elim
  obtain ⟨_,hall⟩ := hg hr1
  obtain ⟨oj',s2,h2,hoj',e2,hg2⟩ := hall j hj'
  obtain rfl : oj = oj' := Option.some.inj (hoj.symm.trans hoj')
  have hpair : aGj F G ops oi oj = true := by
   rw [hoi] at hp
   have h3 := List.all_eq_true.1 hp.2 j (by simpa using hjn)
   simp only [hoj,Bool.or_eq_true,beq_iff_eq] at h3
   rcases h3 with (h3 | h3) | (h3 | h3)
   ·exact absurd h3.symm hij
   ·rw [hunj] at h3; cases h3
   ·exact h3
   ·exfalso
    rcases aAI hc hoj hprej j [j] (by simp) i (by simpa using h3) with h4 | h4
    ·exact hij h4
    ·have := getD_both huni
     rw [h4] at this; cases this
  obtain ⟨A,M,a,w,R⟩ := hr
  have hsc := R.scopeOk
  obtain ⟨s3,h3,f1,f2⟩ := StepR.comm hpair (hsc.op oj) (hsc.op oi) e e2
  refine ⟨oj,s3,h3,hoj,f1, ?_⟩
  have hc' : aCr ops (listed.setIfInBounds j true) := by
   intro k ok hk hl ed he hb
   by_cases hjk : j = k
   ·subst hjk
    obtain rfl : ok = oj := Option.some.inj (hk.symm.trans hoj)
    exact getD_set_true (hprej ed he hb)
   ·rw [getD_set_ne false hjk] at hl
    exact getD_set_true (hc k ok hk hl ed he hb)
  have hp' : aAZ F G ops (listed.setIfInBounds j true) i = true := by
   have hi2 : i ∈ Region.ready .any ops (listed.setIfInBounds j true) := mem_ready.2 ⟨by rw [getD_set_ne true (Ne.symm hij)]; exact huni,oi,hoi,fun ed he hb => getD_set_true (hprei ed he hb)⟩
   simp only [aAZ,Bool.and_eq_true,hoi]
   refine ⟨by simpa using hi2,List.all_eq_true.2 fun k hk => ?_⟩
   rw [hoi] at hp
   have h3 := List.all_eq_true.1 hp.2 k hk
   simp only [Bool.or_eq_true] at h3 ⊢
   rcases h3 with (h3 | h3) | h3
   ·exact .inl (.inl h3)
   ·refine .inl (.inr ?_)
    by_cases hjk : j = k
    ·subst hjk; exact aBO true (by rw [hsz]; exact hjn)
    ·rw [getD_set_ne true hjk]; exact h3
   ·exact .inr h3
  refine Good.pick n (by simpa using hsz) hc' hp' hoi f2 ?_
  rw [aF7]
  exact hg2
def DrawG (P : Program) (N : Nat) (F G : FuncId → Bool) (ops : Array Oper) (n : Nat) (listed : Array Bool) (s : List V) (h : Hp) (K : List V → Hp → Prop) : Prop := Good P N F G ops K n listed s h
def aIb (ops : Array Oper) (listed : Array Bool) : Bool :=
 (List.range ops.size).all fun j => match ops[j]? with
  | none => true
  | some oj => !(listed.getD j false) || oj.after.all fun e => !(Region.binds .any e) || listed.getD e.on false
theorem aGH {listed : Array Bool} (hb : aIb ops listed = true) : aCr ops listed := by
 intro j oj hj hl e he hbi
 have hjn : j < ops.size := (Array.getElem?_eq_some_iff.1 hj).1
 have h1 := List.all_eq_true.1 hb j (by simpa using hjn)
 simp only [hj,hl,Bool.not_true,Bool.false_or] at h1
 have h2 := Array.all_eq_true_iff_forall_mem.1 h1 e he
 simpa [hbi] using h2
variable {N n m t : Nat} {fr : List (Nat × V)} {K : List V → Hp → Prop} {op : Op} {ty : TypeId} {pos : String} {aft : Array Edge} {v : V} {gd : Option (Nat × Bool)} {listed : Array Bool} {i : Nat}
theorem DrawG.nil (hr : aAo ops.size listed = []) (hk : K s h) : DrawG P N F G ops 0 listed s h K := ⟨hr,hk⟩
def aE5 (F G : FuncId → Bool) (ops : Array Oper) (listed : Array Bool) (i : Nat) : Bool := (listed.size == ops.size) && aIb ops listed && aAZ F G ops listed i
theorem DrawG.pick {o : Oper} {s1 : List V} {h1 : Hp} (hp : aE5 F G ops listed i = true) (ho : ops[i]? = some o) (e : StepR P F G ops o s h s1 h1) (k : DrawG P N F G ops n (listed.setIfInBounds i true) s1 h1 K) : DrawG P N F G ops (n + 1) listed s h K := by
 simp only [aE5,Bool.and_eq_true,beq_iff_eq] at hp
 exact Good.pick n hp.1.1 (aGH hp.1.2) hp.2 ho e k
def Fork (P : Program) (N : Nat) (F G : FuncId → Bool) (ops : Array Oper) (n : Nat) (listed : Array Bool) (s : List V) (h : Hp) (K : List V → Hp → Prop) : List Nat → Prop
 | [] => True
 | i :: l => (∃ o s1 h1,ops[i]? = some o ∧ StepR P F G ops o s h s1 h1 ∧ DrawG P N F G ops n (listed.setIfInBounds i true) s1 h1 K) ∧ Fork P N F G ops n listed s h K l
theorem Fork.all : ∀ {l : List Nat},Fork P N F G ops n listed s h K l → ∀ i ∈ l,∃ o s1 h1,ops[i]? = some o ∧ StepR P F G ops o s h s1 h1 ∧ Good P N F G ops K n (listed.setIfInBounds i true) s1 h1
 | [],_,i,hi => by cases hi
 | j :: l,hf,i,hi => by
  rcases List.mem_cons.1 hi with rfl | hi
  ·exact hf.1
  ·exact Fork.all hf.2 i hi
theorem DrawG.fork (l : List Nat) (hl : Region.ready .any ops listed = l) (hne : l ≠ []) (hf : Fork P N F G ops n listed s h K l) : DrawG P N F G ops (n + 1) listed s h K := by
 refine .inr fun _ => ?_
 rw [hl]
 exact ⟨hne,hf.all⟩
theorem DrawG.gh {s' : List V} (hc : aGy ops listed = true) (hg : Ghost N s h s' h') (k : DrawG P N F G ops (n + 1) listed s' h' K) : DrawG P N F G ops (n + 1) listed s h K := by
 refine .inl ⟨hc,fun A M0 M h0 w0 a w Q hN hM Gr R hQ => ?_⟩
 obtain ⟨t,ht⟩ := Gr.pre
 have hle : N ≤ M.length := by rw [← ht]; simp [hM]
 obtain ⟨M',h1,h2,h3⟩ := hg A M a w hle R
 refine Good.sound hN hM _ _ k ⟨?_,h2.hr,Gr.ext,fun g hg hl => Gr.live g hg (h3 g hl)⟩ h2 hQ
 have : M0 = M'.take N := by rw [h1,← ht,← hM]; simp
 rw [this]
 exact List.take_prefix _ _
theorem Fork.nil : Fork P N F G ops n listed s h K [] := trivial
theorem Fork.cons {l : List Nat} {o : Oper} {s1 : List V} {h1 : Hp} (ho : ops[i]? = some o) (e : StepR P F G ops o s h s1 h1) (k : DrawG P N F G ops n (listed.setIfInBounds i true) s1 h1 K) (r : Fork P N F G ops n listed s h K l) : Fork P N F G ops n listed s h K (i :: l) := ⟨⟨o,s1,h1,ho,e,k⟩,r⟩
def lst (l : List Nat) (n : Nat) : Array Bool := l.foldl (fun a i => a.setIfInBounds i true) (Array.replicate n false)
theorem DrawG.jn {L : Array Bool} {m : Nat} {s1 : List V} {h1 : Hp} (k : DrawG P N F G ops m L s1 h1 K) (q : DrawG P N F G ops m L s1 h1 K → DrawG P N F G ops n listed s h K) : DrawG P N F G ops n listed s h K := q k
theorem DrawG.jg {L : Array Bool} {s' : List V} (hL : listed = L) (hc : aGy ops L = true) (hg : Ghost N s h s' h') (k : DrawG P N F G ops (n + 1) L s' h' K) : DrawG P N F G ops (n + 1) listed s h K := by
 subst hL
 exact DrawG.gh hc hg k
theorem aH7 : aAR O0 F := fun _ _ _ _ _ _ hh => by cases hh
theorem aJR : aIW O0 G := fun _ _ _ _ _ _ hh => by cases hh
theorem aLC : aLk O0 F := fun _ _ _ _ _ _ hh => by cases hh
theorem gS (hs : b7 P O0 ops ⟨some t,op,ty,pos,aft,gd⟩ (aE m fr) h = some (v,h')) : StepR P F G ops ⟨some t,op,ty,pos,aft,gd⟩ (aE m fr) h (aE m ((t,v) :: fr)) h' :=
 ⟨O0,aGk,aH7,aJR,aLC,by rw [d6,hs]; simp only [Option.map_some]; rw [aDj]⟩
theorem gN (hs : b7 P O0 ops ⟨none,op,ty,pos,aft,gd⟩ (aE m fr) h = some (v,h')) : StepR P F G ops ⟨none,op,ty,pos,aft,gd⟩ (aE m fr) h (aE m fr) h' :=
 ⟨O0,aGk,aH7,aJR,aLC,by rw [d6,hs]; rfl⟩
theorem gC {f : FuncId} {xs : List V} (hc : Fn P f h xs v h') (hF : F f = false) (hG : G f = true → ∃ news,h' = h ++ news) (hs : b7 P (aBB f h xs v h') ops ⟨some t,op,ty,pos,aft,gd⟩ (aE m fr) h = some (v,h')) :
  StepR P F G ops ⟨some t,op,ty,pos,aft,gd⟩ (aE m fr) h (aE m ((t,v) :: fr)) h' := by
 refine ⟨aBB f h xs v h',aEF hc, ?_, ?_, ?_,by rw [d6,hs]; simp only [Option.map_some]; rw [aDj]⟩
 ·intro k h1 args r1 h2 hk hh
  unfold aBB at hh
  split at hh
  ·rename_i he
   rw [he.1,hF] at hk; cases hk
  ·cases hh
 ·intro k h1 args r1 h2 hk hh
  unfold aBB at hh
  split at hh
  ·rename_i he
   obtain ⟨rfl,rfl,rfl⟩ := he
   simp only [Option.some.injEq,Prod.mk.injEq] at hh
   rw [← hh.2]; exact hG hk
  ·cases hh
 ·intro k h1 args r1 h2 hk hh
  unfold aBB at hh
  split at hh
  ·rename_i he
   rw [he.1,hF] at hk; cases hk
  ·cases hh
open Classical in
noncomputable def aEX (f : FuncId) (xs : List V) (r : V) : tD := fun k h1 xs1 => if k = f ∧ xs1 = xs then some (r,h1) else none
theorem r8 {f : FuncId} {xs : List V} {r : V} : aEX f xs r f h xs = some (r,h) := by simp [aEX]
theorem gU {f : FuncId} {xs : List V} (hc : ∀ h,Fn P f h xs v h) (hG : G f = false) (hs : b7 P (aEX f xs v) ops ⟨some t,op,ty,pos,aft,gd⟩ (aE m fr) h = some (v,h)) :
  StepR P F G ops ⟨some t,op,ty,pos,aft,gd⟩ (aE m fr) h (aE m ((t,v) :: fr)) h := by
 have key : ∀ {k h1 args r1 h2},aEX f xs v k h1 args = some (r1,h2) → k = f ∧ args = xs ∧ r1 = v ∧ h2 = h1 := by
  intro k h1 args r1 h2 hh
  unfold aEX at hh
  split at hh
  ·rename_i he
   simp only [Option.some.injEq,Prod.mk.injEq] at hh
   exact ⟨he.1,he.2,hh.1.symm,hh.2.symm⟩
  ·cases hh
 refine ⟨aEX f xs v, ?_, ?_, ?_, ?_,by rw [d6,hs]; simp only [Option.map_some]; rw [aDj]⟩
 ·intro k h1 args r1 h2 hh
  obtain ⟨rfl,rfl,rfl,rfl⟩ := key hh
  exact hc _
 ·intro k h1 args r1 h2 _ hh
  exact (key hh).2.2.2
 ·intro k h1 args r1 h2 hk hh
  rw [(key hh).1,hG] at hk; cases hk
 ·intro k h1 args r1 h2 _ hh h3
  obtain ⟨rfl,rfl,rfl,_⟩ := key hh
  exact r8
def eC (l : List Nat) : FuncId → Bool := fun f => l.elem f
end
theorem AB.rd {P : Program} {N : Nat} {Q : Ex → List V → Hp → Prop} {s : List V} {h : Hp} (F G : FuncId → Bool) (hm : P.follows .mixedOrders = true) {id : Nat} {l : List Oper} (hr : DrawG P N F G l.toArray l.toArray.size (Array.replicate l.toArray.size false) s h (Q .normal)) : AB P N (.region id l.toArray true) Q s h := by
 intro A M0 M h0 w0 a w hN hM Gr R
 refine wp_region_any hm ?_
 have R' : Rel A M s h a w.drew := ⟨R.hr.drew,SR.keep (Grow.drew R.hr) R.sr,R.defers⟩
 exact Good.sound hN hM _ _ hr (Gr.trans (Grow.drew R.hr)) R' (fun s' h' M' a' w' hk G' R'' => ⟨.normal,s',h',M',rfl,hk,G',R''⟩)
def Conv (h h' : Hp) (x y : V) : Prop := ∀ (A : Nat → Prop) (M : List (Option Nat)) (w : World) (v : Value),HR A M h w → VR (Xs A M h) M w x v → VR (Xs A M h') M w y v
def Convs (h h' : Hp) : List V → List V → Prop
 | [],[] => True
 | x :: xs,y :: ys => Conv h h' x y ∧ Convs h h' xs ys
 | _,_ => False
def Sub (h h' : Hp) : Prop := ∀ (b : Nat) (B' : Blk),h'[b]? = some (some B') → ∃ B,h[b]? = some (some B)
theorem Sub.live {h h' : Hp} (hs : Sub h h') {M : List (Option Nat)} {g : Nat} (hl : dA M h' g) : dA M h g := by
 obtain ⟨b,B,hb,hm⟩ := hl
 obtain ⟨C,hc⟩ := hs b B hb
 exact ⟨b,C,hc,hm⟩
theorem Sub.xs {h h' : Hp} (hs : Sub h h') {A : Nat → Prop} {M : List (Option Nat)} {g : Nat} (hl : Xs A M h' g) : Xs A M h g := hl.elim .inl (fun k => .inr (hs.live k))
theorem Conv.same {h h' : Hp} (hs : Sub h h') {x : V} : Conv h h' x x := fun _ _ _ _ _ hv => hv.avoid (fun _ _ hx => hs.xs hx)
theorem Convs.len {h h' : Hp} : ∀ {xs ys : List V},Convs h h' xs ys → xs.length = ys.length
 | [],[],_ => rfl
 | _ :: _,_ :: _,k => by simp [Convs.len k.2]
 | [],_ :: _,k => k.elim
 | _ :: _,[],k => k.elim
theorem Convs.sound {h h' : Hp} {A : Nat → Prop} {M : List (Option Nat)} {w : World} (H : HR A M h w) : ∀ {xs ys : List V} {vs : List Value},Convs h h' xs ys → VCells (Xs A M h) M w xs vs → VCells (Xs A M h') M w ys vs
 | [],[],vs,_,hv => by unfold VCells at *; exact hv
 | x :: xs,y :: ys,vs,k,hv => by
  unfold VCells at *
  obtain ⟨v,rest,e1,e2,e3⟩ := hv
  exact ⟨v,rest,e1,k.1 A M w v H e2,Convs.sound H k.2 e3⟩
 | [],_ :: _,_,k,_ => k.elim
 | _ :: _,[],_,k,_ => k.elim
theorem Convs.same {h h' : Hp} (hs : Sub h h') : ∀ {xs : List V},Convs h h' xs xs
 | [] => trivial
 | _ :: _ => ⟨Conv.same hs,Convs.same hs⟩
theorem Convs.nil {h h' : Hp} : Convs h h' [] [] := trivial
theorem Convs.cons {h h' : Hp} {x y : V} {xs ys : List V} (a : Conv h h' x y) (k : Convs h h' xs ys) : Convs h h' (x :: xs) (y :: ys) := ⟨a,k⟩
theorem Conv.agg {h h' : Hp} {xs ys : List V} (k : Convs h h' xs ys) : Conv h h' (.agg xs) (.agg ys) := fun A M w v H hv => by
 unfold VR at *
 obtain ⟨vs,e,hc⟩ := hv
 exact ⟨vs,e,Convs.sound H k hc⟩
theorem Conv.tup {h h' : Hp} {xs ys : List V} (k : Convs h h' xs ys) : Conv h h' (.tup xs) (.tup ys) := fun A M w v H hv => by
 unfold VR at *
 obtain ⟨vs,e,hc⟩ := hv
 exact ⟨vs,e,Convs.sound H k hc⟩
def V.shut : V → Bool
 | .sc _ | .row _ _ _ | .eptr _ _ _ => true
 | _ => false
theorem VR.shut {X : Nat → Prop} {M : List (Option Nat)} {w : World} {x : V} {v : Value} (hx : x.shut = true) (h : VR X M w x v) : VR X [] w x v := by
 cases x <;> first | (unfold VR at *; exact h) | (simp [V.shut] at hx)
theorem eJ {α : Type} {p : V → Bool} {E : α → V} {l : List α} (h : ∀ x,p (E x) = true) : (l.map E).all p = true := by
 rw [List.all_eq_true]; intro y hy
 simp only [List.mem_map] at hy
 obtain ⟨x,_,rfl⟩ := hy
 exact h x
theorem aIQ {x : V} (h : x.one = true) : x.okElem 1 = true := by
 have hc : x.cells = [x] := by cases x <;> first | rfl | simp [V.one] at h
 simp [V.okElem,V.flatOk,hc,h]
theorem aEn {X : Nat → Prop} {w : World} {g : Nat} {cs : Array Value} {e : TypeId} {f : Nat × Nat} (hw : w.heap[g]? = some (.cells cs e f)) : ∀ (xs : List V) (i : Nat),(∀ c ∈ xs,c.one = true ∧ c.shut = true) → VCells X [] w xs ((cs.toList.drop i).take xs.length) → VRow X [] w 1 xs ⟨g,i,none⟩
 | [],i,_,_ => by unfold VRow; trivial
 | x :: xs,i,ho,hv => by
  unfold VCells at hv
  obtain ⟨v,rest,e1,e2,e3⟩ := hv
  have hi : i < cs.toList.length := by
   rcases Nat.lt_or_ge i cs.toList.length with hl | hl
   ·exact hl
   ·rw [List.drop_eq_nil_of_le hl] at e1; simp at e1
  rw [List.drop_eq_getElem_cons hi] at e1
  simp only [List.length_cons,List.take_succ_cons,List.cons.injEq] at e1
  obtain ⟨ev,er⟩ := e1
  have h1 := (ho x (by simp)).1
  have hcell : v.cells = #[v] := dH (e2.oneCell h1)
  unfold VRow
  refine ⟨⟨v,e2,by rw [hcell]; rfl, ?_⟩, ?_⟩
  ·rw [hcell]
   intro j u hu
   have hj : j = 0 := by have := (Array.getElem?_eq_some_iff.1 hu).1; simp at this; exact this
   subst hj
   simp at hu
   subst hu
   simp only [Addr.add,if_true]
   unfold World.cell?
   rw [hw]
   subst ev
   simp at hi
   simp [hi]
  ·have : (⟨g,i,none⟩ : Addr).add 1 = ⟨g,i + 1,none⟩ := by simp [Addr.add]
   rw [this]
   exact aEn hw xs (i + 1) (fun c hc => ho c (by simp [hc])) (by rw [er]; exact e3)
theorem Conv.row {h h' : Hp} (hs : Sub h h') {b n : Nat} {e : TypeId} {cs : List V} {ag : Bool} (hb : h[b]? = some (some ⟨e,cs⟩)) (hb' : h'[b]? = some none) (hsh : cs.all V.shut = true) (hn : n = cs.length) : Conv h h' (.sl b 0 n 1 ag) (.row none 1 cs) := by
 intro A M w v H hv
 obtain ⟨hone,hcase⟩ := H.blk b _ hb
 unfold VR at hv ⊢
 rcases hv with ⟨hm,rfl,h0,_⟩ | ⟨g,cap,e',sz,hm,rfl,h1,_,h3,hshp,_⟩
 ·have : cs = [] := List.eq_nil_of_length_eq_zero (by omega)
  subst this
  exact ⟨none,0,rfl,Nat.le_refl _,fun _ => rfl,(fun b hb => by cases hb),by simp,fun hne => absurd rfl hne⟩
 ·rcases hcase with ⟨hm',_⟩ | ⟨g',aS,hm',hA,hw,hle,hcs⟩
  ·rw [hm] at hm'; cases hm'
  ·rw [hm] at hm'
   injection hm' with hm'
   injection hm' with hm'
   subst hm'
   obtain ⟨f,_,hw⟩ := hw.inCells hshp
   refine ⟨some ⟨g,0,none⟩,cap,by rw [hn],by omega,fun hh => (by cases hh),(fun b hb => by cases hb),fun c hc => aIQ (hone c hc),fun _ => ⟨⟨g,0,none⟩,rfl,h3, ?_,rfl, ?_⟩⟩
   ·rintro (ha | ⟨c,C,hc,hmc⟩)
    ·exact hA ha
    ·obtain ⟨C',hc'⟩ := hs c C hc
     have := H.inj c b C' _ g hc' hb hmc hm
     subst this
     rw [hb'] at hc; cases hc
   ·refine aEn hw cs 0 (fun c hc => ⟨hone c hc,List.all_eq_true.1 hsh c hc⟩) ?_
    rw [List.drop_zero]
    refine VCells.mk (by rw [List.length_take]; simp only [Array.length_toList]; dsimp only at hle; omega) (fun i c u hc hu => ?_)
    obtain ⟨u',hu',hr⟩ := hcs.get hc
    dsimp only at hu'
    rw [hu] at hu'
    injection hu' with hu'
    subst hu'
    exact (hr.shut (List.all_eq_true.1 hsh c (List.mem_of_getElem? hc))).avoid (fun _ _ hx => hs.xs hx)
def FCv (h h' : Hp) (fr : List (Nat × V)) : List (Nat × V) → Prop
 | [] => True
 | (t,y) :: r => (∃ x,fL fr t = some x ∧ Conv h h' x y) ∧ FCv h h' fr r
theorem FCv.nil {h h' : Hp} {fr : List (Nat × V)} : FCv h h' fr [] := trivial
theorem FCv.cons {h h' : Hp} {fr r : List (Nat × V)} {t : Nat} {x y : V} (hl : fL fr t = some x) (hc : Conv h h' x y) (k : FCv h h' fr r) : FCv h h' fr ((t,y) :: r) := ⟨⟨x,hl,hc⟩,k⟩
theorem FCv.get {h h' : Hp} {fr : List (Nat × V)} : ∀ {fr' : List (Nat × V)},FCv h h' fr fr' → ∀ {t : Nat} {y : V},fL fr' t = some y → ∃ x,fL fr t = some x ∧ Conv h h' x y
 | [],_,t,y,hy => by cases hy
 | (u,z) :: r,k,t,y,hy => by
  simp only [fL] at hy
  cases hb : Nat.beq u t with
  | true =>
   rw [hb] at hy
   have := Nat.eq_of_beq_eq_true hb
   subst this
   simp only [cond_true,Option.some.injEq] at hy
   subst hy
   exact k.1
  | false => rw [hb] at hy; exact k.2.get hy
def HCv (H H' : Hp) : Hp → Hp → Prop
 | [],[] => True
 | _ :: h,none :: h' => HCv H H' h h'
 | some B :: h,some B' :: h' => (B.e = B'.e ∧ Convs H H' B.cells B'.cells ∧ B'.cells.all V.one = true) ∧ HCv H H' h h'
 | _,_ => False
theorem HCv.get {H H' : Hp} : ∀ {h h' : Hp},HCv H H' h h' → ∀ {j : Nat} {B' : Blk},h'[j]? = some (some B') → ∃ B,h[j]? = some (some B) ∧ B.e = B'.e ∧ Convs H H' B.cells B'.cells ∧ B'.cells.all V.one = true
 | [],[],_,j,B',hj => by simp at hj
 | _ :: h,none :: h',hh,j,B',hj => by
  cases j with
  | zero => simp at hj
  | succ j => simp only [List.getElem?_cons_succ] at hj ⊢; exact HCv.get (h := h) hh hj
 | some B :: h,some C :: h',hh,j,B',hj => by
  cases j with
  | zero =>
   simp only [List.getElem?_cons_zero,Option.some.injEq] at hj
   subst hj
   exact ⟨B,rfl,hh.1.1,hh.1.2.1,hh.1.2.2⟩
  | succ j => simp only [List.getElem?_cons_succ] at hj ⊢; exact HCv.get (h := h) hh.2 hj
 | [],_ :: _,hh,_,_,_ => hh.elim
 | _ :: _,[],hh,_,_,_ => by unfold HCv at hh; exact hh.elim
 | none :: _,some _ :: _,hh,_,_,_ => hh.elim
theorem HCv.len {H H' : Hp} : ∀ {h h' : Hp},HCv H H' h h' → h.length = h'.length
 | [],[],_ => rfl
 | _ :: h,none :: h',hh => by simp [HCv.len (h := h) hh]
 | some B :: h,some C :: h',hh => by simp [HCv.len (h := h) hh.2]
 | [],_ :: _,hh => hh.elim
 | _ :: _,[],hh => by unfold HCv at hh; exact hh.elim
 | none :: _,some _ :: _,hh => hh.elim
theorem HCv.nil {H H' : Hp} : HCv H H' [] [] := trivial
theorem HCv.dead {H H' h h' : Hp} {o : Option Blk} (k : HCv H H' h h') : HCv H H' (o :: h) (none :: h') := by cases o <;> exact k
theorem HCv.live {H H' h h' : Hp} {e : TypeId} {cs cs' : List V} (hc : Convs H H' cs cs') (ho : cs'.all V.one = true) (k : HCv H H' h h') : HCv H H' (some ⟨e,cs⟩ :: h) (some ⟨e,cs'⟩ :: h') := ⟨⟨rfl,hc,ho⟩,k⟩
theorem Ghost.conv {N n : Nat} {fr fr' : List (Nat × V)} {h h' : Hp} (hf : FCv h h' fr fr') (hh : HCv h h' h h') : Ghost N (aE n fr) h (aE n fr') h' := by
 intro A M a w hN R
 have hs : Sub h h' := fun b B' hb => by obtain ⟨B,hB,_⟩ := hh.get hb; exact ⟨B,hB⟩
 refine ⟨M,rfl,⟨⟨by rw [← hh.len]; exact R.hr.len,R.hr.alt, ?_, ?_,R.hr.glob.avoid fun g _ hx => hx.elim .inl (fun hl => .inr (hs.live hl))⟩, ?_,R.defers⟩,fun g hl => hs.live hl⟩
 ·intro b B' hb
  obtain ⟨B,hB,he,hc,ho⟩ := hh.get hb
  refine ⟨List.all_eq_true.1 ho, ?_⟩
  have hl := hc.len
  rcases (R.hr.blk b B hB).2 with ⟨hn,hc0⟩ | ⟨g,cs,hg,hA,hw,hle,hcs⟩
  ·exact .inl ⟨hn,List.eq_nil_of_length_eq_zero (by rw [← hl,hc0]; rfl)⟩
  ·refine .inr ⟨g,cs,hg,hA,by rw [← he,← hl]; exact hw,by rw [← hl]; exact hle, ?_⟩
   rw [← hl]
   exact Convs.sound R.hr hc hcs
 ·intro b b' B B' g hb hb' hm hm'
  obtain ⟨C,hC,_⟩ := hh.get hb
  obtain ⟨C',hC',_⟩ := hh.get hb'
  exact R.hr.inj b b' C C' g hC hC' hm hm'
 ·exact aCP R.sr (fun t y hy => by
   obtain ⟨x,hx,hl⟩ := hf.get hy
   exact ⟨x,hx,fun v hv => hl A M w v R.hr hv⟩)
def aKO : Hp → Hp → Bool
 | _,[] => true
 | some _ :: h,some _ :: h' => aKO h h'
 | _ :: h,none :: h' => aKO h h'
 | _,_ => false
theorem aI : ∀ {h h' : Hp},aKO h h' = true → Sub h h'
 | h,[],_,b,B',hb => by simp at hb
 | some B :: h,some C :: h',k,b,B',hb => by
  cases b with
  | zero => exact ⟨B,rfl⟩
  | succ b => simp only [List.getElem?_cons_succ] at hb ⊢; exact aI (h := h) k b B' hb
 | o :: h,none :: h',k,b,B',hb => by
  cases b with
  | zero => simp at hb
  | succ b =>
   simp only [List.getElem?_cons_succ] at hb ⊢
   refine aI (h := h) (h' := h') ?_ b B' hb
   cases o <;> exact k
 | none :: _,some _ :: _,k,_,_,_ => by cases k
 | [],o :: _,k,_,_,_ => by cases o <;> cases k
def dW (s : ByteArray) : List Int := s.data.toList.map fun b => (b.toNat : Int)
def stb (s : ByteArray) : Option (List Int) := if s.size ≤ lE then some (dW s) else none
theorem tR (s : ByteArray) : (dW s).length = s.size := by unfold dW; rw [List.length_map]; rfl
def aIO (s : ByteArray) (i : Int) : Option Int := if 0 ≤ i then (s[i.toNat]?).map (fun b => (b.toNat : Int)) else none
section
variable {P : Program} {N n : Nat} {ops : Array Oper} {l : List Oper} {fr : List (Nat × V)} {h h' : Hp} {K : List V → Hp → Prop}
theorem ixT {t : TypeId} {s : ByteArray} {k : IntKind} {j v : Int} {sz by_ : Nat} {z : Value} (ht : aN P t = some ⟨.string,sz,by_,z⟩) (hx : aIO s j = some v) : vC P t (.sc (.string s)) (.sc (.int k j)) = some (.sc (.int .u8 v)) := by
 unfold aIO at hx
 split at hx
 ·rename_i h0
  simp only [Option.map_eq_some_iff] at hx
  obtain ⟨b,hb,rfl⟩ := hx
  simp [vC,ht,nT,h0,hb]
 ·cases hx
theorem OpsW.does {o : Oper} {v : V} {s : List V} (hw : jS ops o s = some true) (hD : ∀ (A : Nat → Prop) (M : List (Option Nat)) (a : Act) (w : World),HR A M h w → SR (Xs A M h) M w s a → Does P o a w A M h v h')
  (hk : OpsW P N ops l (jJ s o.dst v) h' K) : OpsW P N ops (o :: l) s h K := fun k hl A M0 M h0 w0 a w Q hN hM G R hQ => by
 have h0' : ops[k]? = some o := by simpa using (hl 0).symm
 simp only [List.length_cons,List.range'_succ]
 rw [wpOps_cons]
 unfold wpOp
 rw [h0']
 simp only
 rw [aAd R.sr hw,if_pos rfl]
 refine .inl (hD A M a w R.hr R.sr _ _ fun v' w' M' G' hv => ?_)
 exact hk (k + 1) (fun j => by have := hl (j + 1); simpa [Nat.add_assoc,Nat.add_comm 1 j] using this) A M0 M' h0 w0 _ w' Q hN hM (G.trans G') ⟨G'.hr,(SR.keep G' R.sr).put o.dst hv,by rw [aBz]; exact R.defers⟩ hQ
theorem aFZ {X : Nat → Prop} {M : List (Option Nat)} {w : World} (s : ByteArray) : VCells X M w ((dW s).map (eI .u8)) (s.data.toList.map fun b => Value.int .u8 b.toNat) := by
 refine VCells.mk (by simp [dW]) (fun i c v hc hv => ?_)
 simp only [dW,List.map_map,List.getElem?_map,Option.map_eq_some_iff] at hc hv
 obtain ⟨b,hb,rfl⟩ := hc
 obtain ⟨b',hb',rfl⟩ := hv
 rw [hb] at hb'
 injection hb' with hb'
 subst hb'
 unfold VR; rfl
theorem aNu {t : Nat} {a b e : TypeId} {x : Operand} {s : ByteArray} {r : List Int} {i : Nat} {s1 b1 s2 b2 s3 b3 : Nat} {z1 z2 z3 : Value} {ty : TypeId} {pos : String} {aft : Array Edge} (hx : bI n fr x = some (.sc (.string s)))
  (ha : aN P a = some ⟨.string,s1,b1,z1⟩) (hb : aN P b = some ⟨.slice e,s2,b2,z2⟩) (he : aN P e = some ⟨.int .u8,s3,b3,z3⟩) (hs : stb s = some r) (hl : h.length = i) (hh : h ++ [some ⟨e,r.map (eI .u8)⟩] = h')
  (k : OpsW P N ops l (aE n ((t,.sl i 0 r.length 1 false) :: fr)) h' K) : OpsW P N ops (⟨some t,.convert a b x,ty,pos,aft,none⟩ :: l) (aE n fr) h K := by
 subst hl hh
 unfold stb at hs
 split at hs
 ·rename_i hsz
  injection hs with hs
  subst hs
  refine OpsW.does (v := .sl h.length 0 (dW s).length 1 false) rfl ?_ (by dsimp only; rw [aDj]; exact k)
  intro A M ac w H S
  have hev : ac.eval x = .string s := by have := bR H.glob S (cJ hx); unfold VR at this; exact this
  have hge := grownCap_ge w s.size 0 e
  have hcm : grownCap w s.size 0 e ≤ maxLen := grownCap_le_maxLen w s.size 0 e (by unfold lE at hsz; simp only [maxLen]; omega)
  have hrow : (bytesRow s (grownCap w s.size 0 e)).size = grownCap w s.size 0 e := by
   simp only [bytesRow,Array.size_append,Array.size_map,Array.size_replicate]
   show s.size + _ = _
   omega
  have Gd := Grow.drew H
  have G := Gd.trans (Grow.allocF Gd.hr e ((dW s).map (eI .u8)) (bytesRow s (grownCap w s.size 0 e)) (by rw [hrow,List.length_map,tR]; exact hge) (by
   have : (bytesRow s (grownCap w s.size 0 e)).toList.take ((dW s).map (eI .u8)).length = s.data.toList.map fun b => Value.int .u8 b.toNat := by
    simp only [bytesRow,Array.toList_append,Array.toList_map]
    rw [show ((dW s).map (eI .u8)).length = (s.data.toList.map fun b => Value.int .u8 b.toNat).length by simp [dW]]
    exact List.take_left
   rw [this]
   exact aFZ s) (fun c hc => by
    simp only [List.mem_map] at hc
    obtain ⟨y,_,rfl⟩ := hc
    rfl) _ (.inr rfl))
  refine Does.value (sem := convert a b (.string s)) (by simp [execOp,hev]) ⟨_,_,_,run_bytes_of_string w a b e s (cC ha).1 (cC hb).1 (cC he).1,G, ?_⟩
  unfold VR
  refine .inr ⟨w.heap.size,grownCap w s.size 0 e,e,grownCap w s.size 0 e,by rw [← H.len]; simp,by rw [tR],by rw [tR]; exact hge,hcm,by omega, ?_,by omega⟩
  unfold World.shape?
  rw [show (w.drew.alloc (.cells (bytesRow s (grownCap w s.size 0 e)) e ((bytesRow s (grownCap w s.size 0 e)).size,(bytesRow s (grownCap w s.size 0 e)).size + 1))).heap[w.heap.size]? = some (.cells (bytesRow s (grownCap w s.size 0 e)) e ((bytesRow s (grownCap w s.size 0 e)).size,(bytesRow s (grownCap w s.size 0 e)).size + 1)) from heap_alloc_new w.drew _]
  simp only [hrow]
 ·cases hs
end
def aS {α : Type} (n : Nat) (l : List α) : Option (List α) := if l.length = n then some l else none
def bB {α : Type} (n : Nat) (l : List α) (i : Int) : Option α := if i < n then bS l i else none
def oS {α : Type} (n : Nat) (l : List α) : Option (List α) := if n ≤ l.length then some (l.take n) else none
theorem aV {α : Type} {n : Nat} {l m : List α} (h : aS n l = some m) : l.length = n := by
 unfold aS at h; split at h
 ·assumption
 ·cases h
theorem aLL {α : Type} {n : Nat} {l m : List α} (h : aS n l = some m) (hn : Nat.ble 1 n = true) : Nat.ble 1 l.length = true := by rw [aV h]; exact hn
theorem bW {α : Type} {n : Nat} {l m : List α} (h : oS n l = some m) : m.length = n := by
 unfold oS at h; split at h
 ·injection h with h; subst h; simp; omega
 ·cases h
theorem m8 {α : Type} {n : Nat} {l : List α} {i : Int} {y : α} (h : bB n l i = some y) : bS l i = some y := by
 unfold bB at h; split at h
 ·exact h
 ·cases h
theorem aHk {α : Type} {n : Nat} {l : List α} {i : Int} {y : α} (h : bB n l i = some y) : i < n := by
 unfold bB at h; split at h
 ·assumption
 ·cases h
section
variable {P : Program} {h h' : Hp} {t e : TypeId} {ti : TI} {i off b N : Nat} {v : V} {α : Type} {E : α → V} {l m : List α} {y : α} {k : IntKind} {j : Int} {sz by_ : Nat} {z : Value} {ag : Bool}
theorem iaB (ht : aN P t = some ⟨.array N e,sz,by_,z⟩) (he : aN P e = some ti) (h1 : ti.size = 1) (hx : bB N l j = some y) : f5 P t (.ptr b 0) (.sc (.int k j)) = some (.ptr b j.toNat) := by
 obtain ⟨h2,h3,_⟩ := iR (m8 hx)
 simp [f5,ht,nT,he,h1,h2,aHk hx]
theorem iaG {es : List V} (ht : aN P t = some ⟨.array N e,sz,by_,z⟩) (he : aN P e = some ti) (h1 : ti.size = 1) (hx : bB N l j = some y) : f5 P t (.eptr es 0 0) (.sc (.int k j)) = some (.eptr es 0 j.toNat) := by
 obtain ⟨h2,h3,_⟩ := iR (m8 hx)
 simp [f5,ht,nT,he,h1,h2,aHk hx]
theorem ixA (ht : aN P t = some ⟨.array N e,sz,by_,z⟩) (he : aN P e = some ti) (h1 : ti.size = 1) (hd : cB ti.desc = false) (hx : bB N l j = some y) : vC P t (.agg (l.map E)) (.sc (.int k j)) = some (E y) := by
 obtain ⟨h2,h3,h4⟩ := iR (m8 hx)
 simp [vC,ht,nT,he,h1,h2,aHk hx,fY,hd,h4]
theorem ldG (ht : aN P t = some ti) (hd : cB ti.desc = false) (hx : bS l j = some y) : d9 P t h (.eptr [.agg (l.map E)] 0 j.toNat) = some (E y) := by
 obtain ⟨_,_,h3⟩ := iR hx
 simp [d9,V.cells,fY,ht,hd,h3]
theorem vQ (ht : aN P t = some ⟨.array N e,sz,by_,z⟩) (hsz : sz = N) (hb : h[b]? = some (some ⟨i,l.map E⟩)) (hl : l.length = N) : d9 P t h (.ptr b 0) = some (.agg (l.map E)) := by
 subst hsz
 simp only [d9,hb,fY,ht,cB,if_true,List.drop_zero,List.length_map]
 rw [if_pos (by omega),List.take_of_length_le (by simp; omega)]
theorem aHi (ht : aN P t = some ⟨.array N e,sz,by_,z⟩) (hsz : sz = N) (hl : l.length = N) : d9 P t h (.eptr [.agg (l.map E)] 0 0) = some (.agg (l.map E)) := by
 subst hsz
 simp only [d9,List.getElem?_cons_zero,V.cells,fY,ht,cB,if_true,List.drop_zero,List.length_map]
 rw [if_pos (by omega),List.take_of_length_le (by simp; omega)]
theorem tK (ht : aN P t = some ⟨.array N e,sz,by_,z⟩) (hsz : sz = N) (hb : h[b]? = some (some ⟨i,l.map E⟩)) (hE : ∀ x,(E x).one = true) (hl : l.length = N) (hm : m.length = N) (hh : h.set b (some ⟨i,m.map E⟩) = h') : qL P t h (.ptr b 0) (.agg (m.map E)) = some h' := by
 subst hh hsz
 simp only [qL,ht,hb]
 rw [if_pos ⟨by simp [V.flatOk,V.cells,hE],by simp [V.cells,hm],by simp [hl]⟩]
 congr 4
 unfold splice
 simp only [V.cells,List.take_zero,List.nil_append,Nat.zero_add,List.length_map]
 rw [List.drop_eq_nil_of_le (by simp; omega),List.append_nil]
theorem slA (ht : aN P t = some ⟨.array N e,sz,by_,z⟩) (he : aN P e = some ti) (h1 : ti.size = 1) (hag : cB ti.desc = ag) (hb : h[b]? = some (some ⟨i,l.map E⟩)) (hl : l.length = N) (hN : 0 < N ∧ N ≤ lE) : iX P t h (.ptr b 0) none none = some (.sl b 0 N 1 ag) := by
 subst hag
 simp only [iX,ht,he,lP,rP,hb]
 rw [if_pos ⟨by omega,hN.2,Int.le_refl _,by omega,Int.le_refl _,by simp [h1,hl]⟩]
 simp [h1]
theorem slE (ht : aN P t = some ⟨.array N e,sz,by_,z⟩) (he : aN P e = some ti) (h1 : ti.size = 1) (hag : cB ti.desc = false) (hl : l.length = N) (hN : 0 < N) : iX P t h (.eptr [.agg (l.map E)] 0 0) none none = some (.row none 1 (l.map E)) := by
 simp only [iX,ht,he,lP,rP,List.getElem?_cons_zero]
 rw [if_pos ⟨h1,hag,Int.le_refl _,by omega,Int.le_refl _,by simp [V.cells,hl]⟩]
 simp [V.cells,hl,List.take_of_length_le]
theorem apR {nl : Option Bool} (ht : aN P t = some ⟨.array N e,sz,by_,z⟩) (hE : ∀ x,(E x).one = true) (hN : 0 < N) (hx : oS N l = some m) : yZ P t (.row nl 1 (l.map E)) = some (.eptr [.agg (m.map E)] 0 0) := by
 unfold oS at hx
 split at hx
 ·injection hx with hx
  subst hx
  simp only [yZ,ht]
  rw [if_pos ⟨trivial,hN,by simpa using by assumption,by simp [hE]⟩,List.map_take]
 ·cases hx
end
section
variable {P : Program} {O : tD} {n : Nat} {fr : List (Nat × V)} {h h' : Hp} {ty : TypeId} {pos : String} {aft : Array Edge} {d : Option Tmp} {g : Option (Nat × Bool)} {x : Operand} {a v : V}
theorem aBo {t : TypeId} (hx : bI n fr x = some a) (hv : yZ P t a = some v) : bF P O ⟨d,.sliceToArrayPointer t x,ty,pos,aft,g⟩ (aE n fr) h = some (v,h) := by simp [bF,cJ hx,hv]
end
theorem V.le_arr {α : Type} {E : α → V} {f : Nat → Nat} {vn : Nat → Bool} {l : List α} (hE : ∀ x,(E x).rn f = E x) : V.le vn (.agg (l.map E)) ((V.agg (l.map E)).rn f) := by
 have : (V.agg (l.map E)).rn f = V.agg (l.map E) := by simp only [V.rn,l6 hE]
 rw [this]; exact V.le_refl _ _
theorem aGm {k : IntKind} (l : List Int) : V.rfs (l.map (eI k)) = true := zD (fun _ => rfl) l
theorem aGO (l : List Bool) : V.rfs (l.map eB) = true := zD (fun _ => rfl) l
abbrev eA {α : Type} (E : α → V) (l : List α) : V := .agg (l.map E)
theorem aN7 {α : Type} {E : α → V} {l : List α} (h : ∀ x,(E x).one = true) : (V.agg (l.map E)).flatOk = true := by simp [V.flatOk,V.cells,h]
theorem aPp {P : Program} {h : Hp} {t e : TypeId} {N sz by_ : Nat} {z : Value} {α : Type} {E : α → V} {l : List (List α)} {y : List α} {j : Int} (ht : aN P t = some ⟨.array N e,sz,by_,z⟩) (hsz : sz = N) (hx : bS l j = some y) (hl : y.length = N) : d9 P t h (.eptr (l.map (eA E)) j.toNat 0) = some (.agg (y.map E)) := by
 subst hsz
 obtain ⟨_,_,h3⟩ := iR hx
 simp only [d9,List.getElem?_map,h3,Option.map_some,V.cells,fY,ht,cB,if_true,List.drop_zero,List.length_map]
 rw [if_pos (by omega),List.take_of_length_le (by simp; omega)]
section
variable {P : Program} (t : TypeId) (xo yo : Operand)
theorem e7 {α β : Type} (s : Sem α) (f : α → Sem β) {a : α} (h : bD P s = some a) : bD P (s >>= f) = bD P (f a) := by
 show bD P (Sem.bind s f) = _
 induction s with
 | pure x => simp only [bD,Option.some.injEq] at h; subst h; rfl
 | program k ih => exact ih P h
 | mark m k ih => exact ih h
 | _ => simp [bD] at h
theorem qX {t : TypeId} {ti : TI} (ht : aN P t = some ti) : bD P (underlying t) = some ti.desc := by
 have h1 := (cC ht).1
 show bD P (match P.underlying t with | some d => pure d | none => stuck "no such type") = _
 rw [h1]; rfl
end
section
variable {P : Program}
theorem aEt {t : TypeId} {ti : TI} (ht : aN P t = some ti) : bD P (sizeOf t) = some ti.size := by
 obtain ⟨_,i,h1,h2,_⟩ := cC ht
 have : bD P (typeInfo t) = some i := by
  show bD P (match P.info? t with | some i => pure i | none => stuck "no such type") = _
  rw [h1]; rfl
 unfold sizeOf
 rw [e7 _ _ this,← h2]; rfl
theorem aBN {t : TypeId} {ti : TI} (ht : aN P t = some ti) (hd : cB ti.desc = false) {cs : Array Value} {off : Nat} {v : Value} (hv : cs[off]? = some v) : bD P (part t cs off) = some v := by
 unfold part
 have hu := qX ht
 have h1 : bD P (isAgg t) = some false := by
  unfold isAgg
  rw [e7 _ _ hu]
  cases hh : ti.desc <;> first | rfl | (rw [hh] at hd; simp [cB] at hd)
 rw [e7 _ _ h1]
 simp only [Bool.false_eq_true,if_false,hv]
 rfl
theorem aJb {t : TypeId} {k k' : IntKind} {sz by_ : Nat} {z : Value} (ht : aN P t = some ⟨.int k',sz,by_,z⟩) (d : Nat) (a b : Int) : bD P (Op.equalIn (d + 1) t (.int k a) (.int k b)) = some (a == b) := by
 rw [Op.equalIn,e7 _ _ (qX ht)]
 simp only [if_true]
 rfl
theorem aFQ {t e : TypeId} {k k' : IntKind} {N sz by_ sz' by' : Nat} {z z' : Value} (ht : aN P t = some ⟨.array N e,sz,by_,z⟩) (he : aN P e = some ⟨.int k',sz',by',z'⟩) (h1 : sz' = 1) {l m : List Int} (hl : l.length = N) (hm : m.length = N) (d : Nat) :
  bD P (Op.equalIn (d + 2) t (.agg (l.map (Value.int k)).toArray) (.agg (m.map (Value.int k)).toArray)) = some (l == m) := by
 subst h1
 rw [Op.equalIn,e7 _ _ (qX ht)]
 simp only
 rw [e7 _ _ (aEt he)]
 simp only [Std.Legacy.Range.forIn_eq_forIn_range',Std.Legacy.Range.size,Nat.sub_zero,Nat.add_one_sub_one,Nat.div_one]
 have key : ∀ (c i : Nat),i + c = N → l.take i = m.take i → bD P (do
   let r ← forIn (List.range' i c 1) ((none,()) : Option Bool × Unit) fun i r => do
    let a ← part e (l.map (Value.int k)).toArray (i * 1)
    let b ← part e (m.map (Value.int k)).toArray (i * 1)
    let q ← Op.equalIn (d + 1) e a b
    if (!q) = true then pure (ForInStep.done (some false,())) else pure (ForInStep.yield (none,()))
   match r.fst with
   | some a => pure a
   | none => pure true) = some (l == m) := by
  intro c
  induction c with
  | zero =>
   intro i hi hp
   have : l = m := by
    rw [List.take_of_length_le (by omega),List.take_of_length_le (by omega)] at hp
    exact hp
   subst this
   simp only [List.range'_zero,List.forIn_nil]
   show some true = _
   simp
  | succ c ih =>
   intro i hi hp
   have hil : i < l.length := by omega
   have him : i < m.length := by omega
   simp only [List.range'_succ,List.forIn_cons,bind_assoc]
   rw [e7 _ _ (aBN he rfl (v := .int k l[i]) (by simp [hil])),e7 _ _ (aBN he rfl (v := .int k m[i]) (by simp [him])),e7 _ _ (aJb he d _ _)]
   by_cases hq : l[i] = m[i]
   ·have := ih (i + 1) (by omega) (by rw [List.take_succ_eq_append_getElem hil,List.take_succ_eq_append_getElem him,hp,hq])
    simpa [hq] using this
   ·have hne : l ≠ m := by rintro rfl; exact hq rfl
    have : (l == m) = false := by simpa using hne
    rw [this]
    have hq' : (l[i] == m[i]) = false := by simpa using hq
    rw [hq']
    rfl
 refine Eq.trans (congrArg (bD P) ?_) (key N 0 (by omega) (by simp))
 refine congr (congrArg bind ?_) (funext fun r => ?_)
 ·rfl
 ·obtain ⟨r,_⟩ := r
  cases r <;> rfl
variable (t : TypeId) (xo yo : Operand)
theorem aEh (k : IntKind) (l : List Int) : eU (.agg (l.map (eI k))) = some (.agg (l.map (Value.int k)).toArray) := by
 have : (l.map (eI k)).mapM dZ = some (l.map (Value.int k)) := by
  induction l with
  | nil => rfl
  | cons x l ih => simp only [List.map_cons,List.mapM_cons,ih]; rfl
 simp only [eU,this,Option.map_some]
theorem aFz {e : TypeId} {k' : IntKind} {N sz by_ sz' by' : Nat} {z z' : Value} {t : TypeId} (ht : aN P t = some ⟨.array N e,sz,by_,z⟩) (he : aN P e = some ⟨.int k',sz',by',z'⟩) (hd : 2 ≤ P.depth) {bo : BinOp} (hbo : bo = .eql ∨ bo = .neq) (a b : Array Value) : bD P (eqGuard bo t xo yo (.agg a) (.agg b)) = some () := by
 unfold eqGuard
 have hg : P.eqGuardType P.depth t = false := by
  obtain ⟨q,hq⟩ : ∃ q,P.depth = q + 2 := ⟨P.depth - 2,by omega⟩
  rw [hq]
  simp only [Program.eqGuardType,(cC ht).1,(cC he).1]
 rcases hbo with rfl | rfl <;>
 ·show bD P (if (!P.eqGuardType P.depth t) = true then pure () else _) = some ()
  rw [hg]; rfl
theorem aLn {e : TypeId} {k k' : IntKind} {N sz by_ sz' by' : Nat} {z z' : Value} {t : TypeId} (ht : aN P t = some ⟨.array N e,sz,by_,z⟩) (he : aN P e = some ⟨.int k',sz',by',z'⟩) (h1 : sz' = 1) (hd : 2 ≤ P.depth) {l m : List Int} (hl : l.length = N) (hm : m.length = N) :
  dR P .eql t xo yo (.agg (l.map (eI k))) (.agg (m.map (eI k))) = some (.sc (.bool (l == m))) := by
 simp only [dR,aEh,pureV]
 rw [e7 _ _ (aFz xo yo ht he hd (.inl rfl) _ _)]
 have : bD P (binOp .eql t (.agg (l.map (Value.int k)).toArray) (.agg (m.map (Value.int k)).toArray)) = some (.bool (l == m)) := aBZ _ _ (aFQ ht he h1 hl hm 9998)
 rw [this]; rfl
theorem aKK {e : TypeId} {k k' : IntKind} {N sz by_ sz' by' : Nat} {z z' : Value} {t : TypeId} (ht : aN P t = some ⟨.array N e,sz,by_,z⟩) (he : aN P e = some ⟨.int k',sz',by',z'⟩) (h1 : sz' = 1) (hd : 2 ≤ P.depth) {l m : List Int} (hl : l.length = N) (hm : m.length = N) :
  dR P .neq t xo yo (.agg (l.map (eI k))) (.agg (m.map (eI k))) = some (.sc (.bool (!(l == m)))) := by
 simp only [dR,aEh,pureV]
 rw [e7 _ _ (aFz xo yo ht he hd (.inr rfl) _ _)]
 have : bD P (binOp .neq t (.agg (l.map (Value.int k)).toArray) (.agg (m.map (Value.int k)).toArray)) = some (.bool (!(l == m))) := aBZ _ (fun b => Value.bool !b) (aFQ ht he h1 hl hm 9998)
 rw [this]; rfl
end
theorem aJE {P : Program} {f : FuncId} {fn : Func} {args : List V} {r : V} {h : Hp} {e : Array Value → Sem Value} (hf : P.funcs[f]? = some fn) (hn : (fn.name == "runtime.NumGoroutine") = false) (hb : fn.body.isNone = true) (h1 : Extern.findNext fn = none) (h2 : Extern.find fn = some e)
  (he : ∀ (X : Nat → Prop) (M : List (Option Nat)) (w : World) (vs : List Value),VCells X M w args vs → ∃ v,(e vs.toArray).run P w = .ok v w ∧ VR X M w r v) : Fn P f h args r h := by
 intro A M w vs H hargs
 obtain ⟨v,hv,hr⟩ := he _ _ _ _ hargs
 refine .inr ⟨v,w, ?_,M,Grow.refl H,hr⟩
 have e1 : (callFunc f vs.toArray).run P w = ((e vs.toArray).run P w).andThen fun v w => .ok (.value v) w := by
  unfold callFunc
  show Sem.run P (match P.funcs[f]? with | none => _ | some fn => _) w = _
  rw [hf]
  simp only [hn,Bool.false_eq_true,if_false,hb,if_true,h1,h2]
  show Sem.run P (Sem.bind (e vs.toArray) _) w = _
  exact Sem.run_bind ..
 rw [e1,hv]
 rfl
section
variable {α : Type} {C : α → List V} {K : Nat}
theorem mD (hC : ∀ x,(C x).length = K) : ∀ l : List α,(l.flatMap C).length = l.length * K
 | [] => by simp
 | x :: l => by simp only [List.flatMap_cons,List.length_append,hC,mD hC l,List.length_cons,Nat.add_mul,Nat.one_mul]; omega
theorem aB2 (hC : ∀ x,(C x).length = K) : ∀ (l : List α) (i : Nat),(l.flatMap C).drop (i * K) = (l.drop i).flatMap C
 | l,0 => by simp
 | [],i + 1 => by simp
 | x :: l,i + 1 => by
  rw [List.flatMap_cons,List.drop_succ_cons,← aB2 hC l i,Nat.add_mul,Nat.one_mul,List.drop_append,List.drop_eq_nil_of_le (by rw [hC]; omega),List.nil_append,hC]
  congr 1; omega
theorem aFM (hC : ∀ x,(C x).length = K) : ∀ (l : List α) (i : Nat),(l.flatMap C).take (i * K) = (l.take i).flatMap C
 | l,0 => by simp
 | [],i + 1 => by simp
 | x :: l,i + 1 => by
  rw [List.flatMap_cons,List.take_succ_cons,List.flatMap_cons,← aFM hC l i,Nat.add_mul,Nat.one_mul,List.take_append,List.take_of_length_le (by rw [hC]; omega),hC]
  congr 2; omega
theorem aC6 (hC : ∀ x,(C x).length = K) (l : List α) : rX true K l.length (l.flatMap C) = l.map fun x => V.agg (C x) := by
 unfold rX
 rw [if_pos rfl]
 apply List.ext_getElem
 ·simp
 ·intro i h1 h2
  simp only [List.length_map] at h2
  simp only [List.getElem_map,List.getElem_range]
  rw [aB2 hC,List.drop_eq_getElem_cons h2,List.flatMap_cons,List.take_append,List.take_of_length_le (by rw [hC]; exact Nat.le_refl _),hC,Nat.sub_self,List.take_zero,List.append_nil]
theorem mQ {p : V → Bool} (h : ∀ x,(C x).all p = true) (l : List α) : (l.flatMap C).all p = true := by
 rw [List.all_eq_true]; intro y hy
 simp only [List.mem_flatMap] at hy
 obtain ⟨x,_,hy⟩ := hy
 exact List.all_eq_true.1 (h x) y hy
theorem aIc {f : Nat → Nat} : ∀ (a b : List V),V.rns f (a ++ b) = V.rns f a ++ V.rns f b
 | [],b => by simp [V.rns]
 | x :: a,b => by simp [V.rns,aIc a b]
theorem i8 {f : Nat → Nat} (h : ∀ x,V.rns f (C x) = C x) : ∀ l : List α,V.rns f (l.flatMap C) = l.flatMap C
 | [] => by simp [V.rns]
 | x :: l => by rw [List.flatMap_cons,aIc,h,i8 h l]
theorem aAe {f : Nat → Nat} {vn : Nat → Bool} (h : ∀ x,V.rns f (C x) = C x) (l : List α) : V.les vn (l.flatMap C) (V.rns f (l.flatMap C)) := by rw [i8 h]; exact V.les_refl _ _
theorem aLm {F : V → Option V} {a b a' b' : List V} (h1 : a.mapM F = some a') (h2 : b.mapM F = some b') : (a ++ b).mapM F = some (a' ++ b') := by
 rw [List.mapM_append,h1,h2]; rfl
theorem aFB {F : V → Option V} (h : ∀ x,(C x).mapM F = some (C x)) : ∀ l : List α,(l.flatMap C).mapM F = some (l.flatMap C)
 | [] => rfl
 | x :: l => by rw [List.flatMap_cons]; exact aLm (h x) (aFB h l)
variable {P : Program} {h h' : Hp} {t e : TypeId} {ti : TI} {b i off : Nat} {l m : List α} {y : α} {kk : IntKind} {j : Int} {nl : Option Bool} {sz by_ : Nat} {z : Value} {v : V}
theorem aL3 {hE : Hp} {q d : Nat} (hC : ∀ x,(C x).length = K) (hK : 0 < K) (hn : l.length = q) (hb : hE[b]? = some (some ⟨e,l.flatMap C⟩)) (hx : ∀ x,(C x).mapM (dU hE d) = some (C x)) : dU hE (d + 1) (.sl b 0 q K true) = some (.row none K (l.map fun x => V.agg (C x))) := by
 subst hn
 simp only [dU,hb]
 rw [if_pos ⟨by rw [mD hC]; omega,hK,.inl trivial⟩]
 simp only [List.drop_zero]
 rw [List.take_of_length_le (by rw [mD hC]; exact Nat.le_refl _),aFB hx]
 simp only [Option.map_some,aC6 hC]
theorem aHz {hE : Hp} {q : Nat} (hC : ∀ x,(C x).length = K) (hK : 0 < K) (hn : l.length = q) (hb : hE[b]? = some (some ⟨e,l.flatMap C⟩)) (hx : ∀ x,(C x).mapM (dU hE 3) = some (C x)) : tX hE (.sl b 0 q K true) = some (.row none K (l.map fun x => V.agg (C x))) := aL3 hC hK hn hb hx
theorem aOg : fK h K (.row nl K (m.map fun x => V.agg (C x))) = some (m.flatMap C,m.length) := by
 have : (m.map fun x => V.agg (C x)).flatMap V.cells = m.flatMap C := by rw [List.flatMap_map]; rfl
 simp only [fK]
 rw [if_pos (.inl trivial),this]; simp
theorem aNY {q : Nat} (hC : ∀ x,(C x).length = K) (hn : m.length = q) (hb : h[b]? = some (some ⟨e,m.flatMap C⟩)) : fK h K (.sl b 0 q K true) = some (m.flatMap C,m.length) := by
 subst hn
 simp only [fK,hb]
 rw [if_pos ⟨trivial,by rw [mD hC]; omega⟩,List.drop_zero,List.take_of_length_le (by rw [mD hC]; exact Nat.le_refl _)]
theorem aN1 {k : Nat} : fK h K (.row nl k []) = some (([] : List α).flatMap C,([] : List α).length) := by simp [fK]
theorem aOd {q : Nat} (hC : ∀ x,(C x).length = K) (hn : l.length = q) (ht : aN P t = some ⟨.slice e,sz,by_,z⟩) (he : aN P e = some ti) (h1 : ti.zero.cells.size = K ∧ ti.size = K ∧ 1 ≤ ti.bytes ∧ 0 < K) (hb : h[b]? = some (some ⟨e,l.flatMap C⟩)) {s : V} (hs : fK h K s = some (m.flatMap C,m.length))
  {r : List α} (ha : eZ ti.bytes l m = some r) (hl : h.length = i) (hh : h.set b none ++ [some ⟨e,r.flatMap C⟩] = h') : jR P t t (.sl b 0 q K true) s h = some (.sl i 0 r.length K true,h') := by
 obtain ⟨h2,h3,h4,h5⟩ := h1
 subst hn
 unfold eZ at ha
 split at ha
 ·rename_i hlim
  injection ha with ha
  subst ha hl hh
  have hx : fK h ti.size s = some (m.flatMap C,m.length) := by rw [h3]; exact hs
  simp only [jR,ne_eq,not_true,if_false,ht,he]
  rw [if_pos ⟨by rw [h2,h3],by omega,h4⟩]
  simp only [hx,hb]
  rw [if_pos ⟨h3.symm,trivial,by rw [mD hC]; exact Nat.le_refl _,hlim⟩,List.take_of_length_le (by rw [mD hC]; exact Nat.le_refl _)]
  simp
 ·cases ha
theorem aOX {q : Nat} (hn : l.length = q) (ht : aN P t = some ⟨.slice e,sz,by_,z⟩) (he : aN P e = some ti) (h1 : ti.size = K) (hx : bS l j = some y) : f5 P t (.sl b 0 q K true) (.sc (.int kk j)) = some (.ptr b (0 + j.toNat * K)) := by
 obtain ⟨h2,h3,_⟩ := iR hx
 subst hn
 simp [f5,ht,nT,he,h1,h2,h3]
theorem aJt {cs r : List V} (h : fY P t cs = some v) : fY P t (cs ++ r) = some v := by
 unfold fY at *
 split at h
 ·cases h
 ·split at h
  ·rename_i hag
   split at h
   ·rename_i hs
    rw [if_pos hag,if_pos (by rw [List.length_append]; omega),List.take_append_of_le_length hs]; exact h
   ·cases h
  ·rename_i hag
   rw [if_neg hag]
   cases cs with
   | nil => cases h
   | cons c cs => exact h
theorem aMs (hC : ∀ x,(C x).length = K) {i : Nat} (hi : l[i]? = some y) (ho : off ≤ K) : (l.flatMap C).drop (0 + i * K + off) = (C y).drop off ++ (l.drop (i + 1)).flatMap C := by
 obtain ⟨h1,h2⟩ := List.getElem?_eq_some_iff.1 hi
 rw [Nat.zero_add,← List.drop_drop,aB2 hC,List.drop_eq_getElem_cons h1,h2,List.flatMap_cons,List.drop_append_of_le_length (by rw [hC]; exact ho)]
theorem aGp (hC : ∀ x,(C x).length = K) (hb : h[b]? = some (some ⟨e,l.flatMap C⟩)) (hx : bS l j = some y) (ho : off ≤ K) (hp : fY P t ((C y).drop off) = some v) : d9 P t h (.ptr b (0 + j.toNat * K + off)) = some v := by
 obtain ⟨_,_,h3⟩ := iR hx
 simp only [d9,hb]
 rw [aMs hC h3 ho]
 exact aJt hp
theorem aIM (hC : ∀ x,(C x).length = K) (hb : h[b]? = some (some ⟨e,l.flatMap C⟩)) (hx : bS l j = some y) (hp : fY P t (C y) = some v) : d9 P t h (.ptr b (0 + j.toNat * K)) = some v := aGp (off := 0) hC hb hx (Nat.zero_le _) (by simpa using hp)
theorem aHP (hC : ∀ x,(C x).length = K) {i : Nat} (hi : l[i]? = some y) {x : V} {y' : α} (ho : off + x.cells.length ≤ K) (hy : splice (C y) off x.cells = C y') : splice (l.flatMap C) (0 + i * K + off) x.cells = (l.set i y').flatMap C := by
 obtain ⟨h1,h2⟩ := List.getElem?_eq_some_iff.1 hi
 have hl : l = l.take i ++ y :: l.drop (i + 1) := by rw [← h2,← List.drop_eq_getElem_cons h1,List.take_append_drop]
 have hset : l.set i y' = l.take i ++ y' :: l.drop (i + 1) := by
  rw [List.set_eq_take_append_cons_drop,if_pos h1]
 have hti : (l.take i).length = i := by rw [List.length_take]; omega
 rw [hset,List.flatMap_append,List.flatMap_cons,← hy]
 conv => lhs; rw [hl,List.flatMap_append,List.flatMap_cons]
 have hA : ((l.take i).flatMap C).length = i * K := by rw [mD hC,hti]
 unfold splice
 rw [Nat.zero_add,List.take_append,List.take_of_length_le (by rw [hA]; omega),hA,show i * K + off - i * K = off by omega,List.take_append_of_le_length (by rw [hC]; omega)]
 rw [show i * K + off + x.cells.length = i * K + (off + x.cells.length) by omega,List.drop_append,List.drop_eq_nil_of_le (by rw [hA]; omega),hA,show i * K + (off + x.cells.length) - i * K = off + x.cells.length by omega,List.nil_append,List.drop_append_of_le_length (by rw [hC]; omega)]
 simp [List.append_assoc]
theorem aNF (hC : ∀ x,(C x).length = K) (ht : aN P t = some ti) (hb : h[b]? = some (some ⟨e,l.flatMap C⟩)) (hx : bS l j = some y) {x : V} {y' : α} (hf : x.flatOk = true) (hs : x.cells.length = ti.size) (ho : off + ti.size ≤ K) (hy : splice (C y) off x.cells = C y') (hh : h.set b (some ⟨e,(l.set j.toNat y').flatMap C⟩) = h') : qL P t h (.ptr b (0 + j.toNat * K + off)) x = some h' := by
 obtain ⟨_,_,h3⟩ := iR hx
 have h4 := (List.getElem?_eq_some_iff.1 h3).1
 subst hh
 simp only [qL,ht,hb]
 have hle : (j.toNat + 1) * K ≤ l.length * K := Nat.mul_le_mul_right K h4
 rw [if_pos ⟨hf,hs,by rw [mD hC]; rw [Nat.add_mul,Nat.one_mul] at hle; omega⟩,aHP hC h3 (by rw [hs]; exact ho) hy]
theorem Conv.rowK (hC : ∀ x,(C x).length = K) (h1K : ∀ x,(C x).all V.one = true) (hsh : ∀ x,(C x).all V.shut = true) {h h' : Hp} (hs : Sub h h') {b n : Nat} {e : TypeId} (hb : h[b]? = some (some ⟨e,l.flatMap C⟩)) (hb' : h'[b]? = some none) (hn : n = l.length) : Conv h h' (.sl b 0 n K true) (.row none K (l.map fun x => V.agg (C x))) := by
 intro A M w v H hv
 obtain ⟨hone,hcase⟩ := H.blk b _ hb
 have hok : ∀ e ∈ l.map (fun x => V.agg (C x)),e.okElem K = true := by
  intro e he
  simp only [List.mem_map] at he
  obtain ⟨x,_,rfl⟩ := he
  simp only [V.okElem,V.flatOk,V.cells,h1K x,hC x,beq_self_eq_true,Bool.and_self]
 unfold VR at hv ⊢
 rcases hv with ⟨hm,rfl,h0,_⟩ | ⟨g,cap,e',sz,hm,rfl,h1,_,h3,hshp,_⟩
 ·have : l = [] := List.eq_nil_of_length_eq_zero (by omega)
  subst this
  exact ⟨none,0,rfl,Nat.le_refl _,fun _ => rfl,(fun b hb => by cases hb),by simp,fun hne => absurd rfl hne⟩
 ·rcases hcase with ⟨hm',_⟩ | ⟨g',aS,hm',hA,hw,hle,hcs⟩
  ·rw [hm] at hm'; cases hm'
  ·rw [hm] at hm'
   injection hm' with hm'
   injection hm' with hm'
   subst hm'
   refine ⟨some ⟨g,0,none⟩,cap,by rw [List.length_map,hn],by rw [List.length_map]; omega,fun hh => (by cases hh),(fun b hb => by cases hb),hok,fun _ => ⟨⟨g,0,none⟩,rfl,h3, ?_,rfl, ?_⟩⟩
   ·rintro (ha | ⟨c,C',hc,hmc⟩)
    ·exact hA ha
    ·obtain ⟨C'',hc'⟩ := hs c C' hc
     have := H.inj c b C'' _ g hc' hb hmc hm
     subst this
     rw [hb'] at hc; cases hc
   ·rw [← aC6 hC l]
    unfold rX
    rw [if_pos rfl]
    dsimp only at hle hcs
    have hall := mQ hsh l
    refine aAK h3 l.length (vs := aS.toList.take (l.flatMap C).length) (mD hC l) (VCells.mk hcs.len (fun i c u hc hu => ?_)) ?_
    ·obtain ⟨u',hu',hr⟩ := hcs.get hc
     rw [hu] at hu'
     injection hu' with hu'
     subst hu'
     exact (hr.shut (List.all_eq_true.1 hall c (List.mem_of_getElem? hc))).avoid (fun _ _ hx => hs.xs hx)
    ·intro i u hu
     have hu2 : aS[i]? = some u := by
      simp only [List.getElem?_toArray,List.getElem?_take] at hu
      split at hu
      ·simpa using hu
      ·cases hu
     have := hw.cell hshp i
     rw [hu2] at this
     unfold Addr.add
     split
     ·rename_i h0; subst h0; exact this
     ·simpa using this
theorem aFr (hC : ∀ x,(C x).length = K) (h1 : ∀ x,(C x).all V.one = true) : ∀ (xs : List α) (i : Nat) (cells : List V),cells.length = (i + xs.length) * K → mZ (fun i => some (i * K,K)) cells (qV i (xs.map fun x => V.agg (C x))) = some (cells.take (i * K) ++ xs.flatMap C)
 | [],i,cells,hl => by
  simp only [List.map_nil,qV,mZ,List.flatMap_nil,List.append_nil]
  rw [List.take_of_length_le (by rw [hl]; simp)]
 | x :: xs,i,cells,hl => by
  simp only [List.length_cons] at hl
  have hl' : cells.length = i * K + K + xs.length * K := by rw [hl,Nat.add_mul,Nat.add_mul,Nat.one_mul]; omega
  simp only [List.map_cons,qV,mZ]
  rw [if_pos ⟨by simp [V.flatOk,V.cells,h1 x],by simp [V.cells,hC x],by omega⟩]
  have hsl : (splice cells (i * K) (V.agg (C x)).cells).length = cells.length := uA _ _ _ (by simp only [V.cells,hC]; omega)
  rw [aFr hC h1 xs (i + 1) _ (by rw [hsl,hl]; congr 1; omega)]
  congr 1
  rw [List.flatMap_cons,← List.append_assoc]
  congr 1
  unfold splice
  simp only [V.cells]
  rw [Nat.add_mul,Nat.one_mul,List.append_assoc,List.take_append,List.take_of_length_le (by rw [List.length_take]; omega),List.length_take,Nat.min_eq_left (by omega),show i * K + K - i * K = K by omega,List.take_append_of_le_length (by rw [hC]; exact Nat.le_refl _),show (C x).take K = C x from List.take_of_length_le (by rw [hC]; exact Nat.le_refl _)]
theorem aCO {len : Nat} {ps : List (Nat × V)} {xs : List α} (hC : ∀ x,(C x).length = K) (h1C : ∀ x,(C x).all V.one = true) (ht : aN P t = some ⟨.slice e,sz,by_,z⟩) (he : aN P e = some ti) (h1 : len * K ≤ 2 ^ 24 ∧ 0 < len ∧ 0 < K) (hK : ti.size = K) (hag : cB ti.desc = true)
  (hp : qV 0 (xs.map fun x => V.agg (C x)) = ps) (hlen : xs.length = len) (hl : h.length = i) (hh : h ++ [some ⟨e,xs.flatMap C⟩] = h') :
  iI P t len ps h = some (.sl i 0 len K true,h') := by
 subst hK hp
 refine aNz ht he h1 hag ?_ ⟨mQ h1C xs,by rw [mD hC,hlen]⟩ hl hh
 rw [aFr hC h1C xs 0 _ (by simp [hlen])]
 simp
end
instance : Inhabited MT := ⟨⟨0,0,⟨.bool,0,0,default⟩,⟨.bool,0,0,default⟩⟩⟩
theorem vB {E : Int → V} {n : Nat} {l : List Int} (h : l.length = n) : (List.range n).map (fun i => E (l.getD i 0)) = l.map E := by
 apply List.ext_getElem?
 intro i
 simp only [List.getElem?_map,List.getElem?_range']
 by_cases hi : i < n
 ·rw [List.getElem?_range hi,List.getElem?_eq_getElem (by omega)]
  simp [List.getD_eq_getElem?_getD,List.getElem?_eq_getElem (show i < l.length by omega)]
 ·rw [List.getElem?_eq_none (by simpa using hi),List.getElem?_eq_none (by omega)]; rfl
theorem aNA {P : Program} {t : TypeId} {ps ps' : List (Nat × V)} {v : V} (h : ps = ps') (hb : sI P t ps' = some v) : sI P t ps = some v := by rw [h]; exact hb
def cA (E : Int → V) (l : List Int) (r : List V) : List V := E (l.getD 0 0) :: E (l.getD 1 0) :: E (l.getD 2 0) :: E (l.getD 3 0) :: r
theorem aMr {E : Int → V} {l : List Int} (h : l.length = 4) (r : List V) : cA E l r = l.map E ++ r := by
 rw [← vB h]; rfl
theorem aA1 {E : Int → V} {l : List Int} (h : l.length = 4) : cA E l [] = l.map E := by rw [aMr h]; simp
theorem pI {f : Nat → Nat} {k : IntKind} {l : List Int} {r : List V} : V.rns f (cA (eI k) l r) = cA (eI k) l (V.rns f r) := rfl
def ar8 (E : Int → V) (l : List Int) (r : List V) : List V := E (l.getD 0 0) :: E (l.getD 1 0) :: E (l.getD 2 0) :: E (l.getD 3 0) :: E (l.getD 4 0) :: E (l.getD 5 0) :: E (l.getD 6 0) :: E (l.getD 7 0) :: r
theorem aLI {E : Int → V} {l : List Int} (h : l.length = 8) (r : List V) : ar8 E l r = l.map E ++ r := by
 rw [← vB h]; rfl
theorem aMB {E : Int → V} {l : List Int} (h : l.length = 8) : ar8 E l [] = l.map E := by rw [aLI h]; simp
theorem pG {f : Nat → Nat} {k : IntKind} {l : List Int} {r : List V} : V.rns f (ar8 (eI k) l r) = ar8 (eI k) l (V.rns f r) := rfl
def aDw (E : Int → V) (l : List Int) (r : List V) : List V := E (l.getD 0 0) :: E (l.getD 1 0) :: E (l.getD 2 0) :: E (l.getD 3 0) :: E (l.getD 4 0) :: E (l.getD 5 0) :: E (l.getD 6 0) :: E (l.getD 7 0) :: E (l.getD 8 0) :: E (l.getD 9 0) :: E (l.getD 10 0) :: E (l.getD 11 0) :: E (l.getD 12 0) :: E (l.getD 13 0) :: E (l.getD 14 0) :: E (l.getD 15 0) :: E (l.getD 16 0) :: E (l.getD 17 0) :: E (l.getD 18 0) :: E (l.getD 19 0) :: r
theorem aKF {E : Int → V} {l : List Int} (h : l.length = 20) (r : List V) : aDw E l r = l.map E ++ r := by
 rw [← vB h]; rfl
theorem aKu {E : Int → V} {l : List Int} (h : l.length = 20) : aDw E l [] = l.map E := by rw [aKF h]; simp
theorem mI {f : Nat → Nat} {k : IntKind} {l : List Int} {r : List V} : V.rns f (aDw (eI k) l r) = aDw (eI k) l (V.rns f r) := rfl
def bL (E : Int → V) (l : List Int) (r : List V) : List V := E (l.getD 0 0) :: E (l.getD 1 0) :: E (l.getD 2 0) :: E (l.getD 3 0) :: E (l.getD 4 0) :: E (l.getD 5 0) :: E (l.getD 6 0) :: E (l.getD 7 0) :: E (l.getD 8 0) :: E (l.getD 9 0) :: E (l.getD 10 0) :: E (l.getD 11 0) :: E (l.getD 12 0) :: E (l.getD 13 0) :: E (l.getD 14 0) :: E (l.getD 15 0) :: E (l.getD 16 0) :: E (l.getD 17 0) :: E (l.getD 18 0) :: E (l.getD 19 0) :: E (l.getD 20 0) :: E (l.getD 21 0) :: E (l.getD 22 0) :: E (l.getD 23 0) :: E (l.getD 24 0) :: E (l.getD 25 0) :: E (l.getD 26 0) :: E (l.getD 27 0) :: E (l.getD 28 0) :: E (l.getD 29 0) :: E (l.getD 30 0) :: E (l.getD 31 0) :: r
theorem aHn {E : Int → V} {l : List Int} (h : l.length = 32) (r : List V) : bL E l r = l.map E ++ r := by
 rw [← vB h]; rfl
theorem uK {E : Int → V} {l : List Int} (h : l.length = 32) : bL E l [] = l.map E := by rw [aHn h]; simp
theorem l8 {f : Nat → Nat} {k : IntKind} {l : List Int} {r : List V} : V.rns f (bL (eI k) l r) = bL (eI k) l (V.rns f r) := rfl
theorem aJ7 {vn : Nat → Bool} {E : Int → V} {l : List Int} {r r' : List V} (hr : V.les vn r r') : V.les vn (bL E l r) (bL E l r') := by
 unfold bL
 repeat (first | exact hr | refine V.les_cons (V.le_refl _ _) ?_)
theorem aKi {h h' : Hp} {E : Int → V} {l : List Int} {r r' : List V} (hE : ∀ x,Conv h h' (E x) (E x)) (hr : Convs h h' r r') : Convs h h' (bL E l r) (bL E l r') := by
 unfold bL
 repeat (first | exact hr | refine Convs.cons (hE _) ?_)
def aDk (E : Int → V) (l : List Int) (r : List V) : List V := E (l.getD 0 0) :: E (l.getD 1 0) :: E (l.getD 2 0) :: E (l.getD 3 0) :: E (l.getD 4 0) :: E (l.getD 5 0) :: E (l.getD 6 0) :: E (l.getD 7 0) :: E (l.getD 8 0) :: E (l.getD 9 0) :: E (l.getD 10 0) :: E (l.getD 11 0) :: E (l.getD 12 0) :: E (l.getD 13 0) :: E (l.getD 14 0) :: E (l.getD 15 0) :: E (l.getD 16 0) :: E (l.getD 17 0) :: E (l.getD 18 0) :: E (l.getD 19 0) :: E (l.getD 20 0) :: E (l.getD 21 0) :: E (l.getD 22 0) :: E (l.getD 23 0) :: E (l.getD 24 0) :: E (l.getD 25 0) :: E (l.getD 26 0) :: E (l.getD 27 0) :: E (l.getD 28 0) :: E (l.getD 29 0) :: E (l.getD 30 0) :: E (l.getD 31 0) :: E (l.getD 32 0) :: E (l.getD 33 0) :: E (l.getD 34 0) :: E (l.getD 35 0) :: E (l.getD 36 0) :: E (l.getD 37 0) :: E (l.getD 38 0) :: E (l.getD 39 0) :: E (l.getD 40 0) :: E (l.getD 41 0) :: E (l.getD 42 0) :: E (l.getD 43 0) :: E (l.getD 44 0) :: E (l.getD 45 0) :: E (l.getD 46 0) :: E (l.getD 47 0) :: E (l.getD 48 0) :: E (l.getD 49 0) :: E (l.getD 50 0) :: E (l.getD 51 0) :: E (l.getD 52 0) :: E (l.getD 53 0) :: E (l.getD 54 0) :: E (l.getD 55 0) :: E (l.getD 56 0) :: E (l.getD 57 0) :: E (l.getD 58 0) :: E (l.getD 59 0) :: E (l.getD 60 0) :: E (l.getD 61 0) :: E (l.getD 62 0) :: E (l.getD 63 0) :: r
theorem aKW {E : Int → V} {l : List Int} (h : l.length = 64) (r : List V) : aDk E l r = l.map E ++ r := by
 rw [← vB h]; rfl
theorem aK2 {E : Int → V} {l : List Int} (h : l.length = 64) : aDk E l [] = l.map E := by rw [aKW h]; simp
theorem mU {f : Nat → Nat} {k : IntKind} {l : List Int} {r : List V} : V.rns f (aDk (eI k) l r) = aDk (eI k) l (V.rns f r) := rfl
theorem aJk {P : Program} (k : IntKind) (n : Int) : unV P .neg (.sc (.int k n)) = some (.sc (.int k (k.wrap (0 - n)))) := rfl
theorem aIe {P : Program} {k : IntKind} (hk : k.signed = false) (n : Int) : unV P .xor (.sc (.int k n)) = some (.sc (.int k (bits .xor k k.max n))) := by
 cases k <;> first | rfl | cases hk
def mkl {α : Type} (by_ : Nat) (z : α) (n c : Int) : Option (List α) := if 0 < n ∧ n ≤ c ∧ c.toNat * by_ ≤ lE then some (List.replicate n.toNat z) else none
theorem mkL {k1 k2 : IntKind} {P : Program} {h h' : Hp} {t e : TypeId} {ti : TI} {i : Nat} {α : Type} {E : α → V} {sz by_ : Nat} {z : Value} {ag : Bool} {j c : Int} {y : α} (ht : aN P t = some ⟨.slice e,sz,by_,z⟩) (he : aN P e = some ti) (h1 : 1 ≤ ti.bytes ∧ ti.size = 1 ∧ ti.zero.cells.size = 1) (hz : ti.zero.cells.toList.map (V.soft ∘ dO) = [E y]) (ho : (E y).one = true) (hag : cB ti.desc = ag) {r : List α}
  (hm : mkl ti.bytes y j c = some r) (hl : h.length = i) (hh : h ++ [some ⟨e,r.map E⟩] = h') : y9 P t (.sc (.int k1 j)) (.sc (.int k2 c)) h = some (.sl i 0 r.length 1 ag,h') := by
 obtain ⟨h2,h3,h4⟩ := h1
 unfold mkl at hm
 split at hm
 ·rename_i hlim
  injection hm with hm
  subst hm hl hh hag
  simp only [y9,ht,he]
  rw [if_pos ⟨by omega,hlim.2.1,hlim.2.2,h2,by omega,by rw [h4,h3],by rw [hz]; simp [ho]⟩,hz,if_neg (by omega)]
  simp only [h3]
  have : ∀ n,(List.replicate n [E y]).flatten = (List.replicate n y).map E := fun n => by
   induction n with
   | zero => rfl
   | succ n ih => simp only [List.replicate_succ,List.flatten_cons,ih,List.map_cons]; rfl
  rw [this]; simp
 ·cases hm
theorem zl {a b : Nat} (h : Nat.ble a b = true := by rfl) : a ≤ b := Nat.le_of_ble_eq_true h
theorem zR {p : Prop} (h : p := by first | rfl | (simp only [V.rn,V.rns,g7,gZ] <;> rfl)) : p := h
theorem zG {N n : Nat} {fr fr' : List (Nat × V)} {h h' : Hp} (σ : List Nat)
  (hf : FLe v9 (V.rn (sg σ h.length)) fr fr' := by repeat (first | exact FLe.nil | refine FLe.same rfl ?_ | refine FLe.le rfl V.le_nil ?_ | refine FLe.le rfl V.le_row ?_ | refine FLe.le rfl (V.le_arr (fun _ => rfl)) ?_))
  (hh : HLe (sg σ h.length) h σ h' := by repeat (first | exact HLe.nil | refine HLe.dead ?_ | refine HLe.live rfl V.les_nil rfl ?_ | refine HLe.live rfl (aA0 (fun _ => rfl) _) (all_map (fun _ => rfl) _) ?_ | refine HLe.live rfl (aAe (fun _ => rfl) _) (mQ (fun _ => rfl) _) ?_ | refine HLe.live rfl (V.les_refl _ _) rfl ?_))
  (hσ : σ.take N = List.range N := by rfl) (hlt : σ.all (fun b => Nat.blt b h.length) = true := by rfl) (hnd : ndB (lvs σ h') = true := by rfl) : Ghost N (aE n fr) h (aE n fr') h' := Ghost.rn σ hσ hlt hf hh hnd
end Go.Vm
