import Derived.Test.YtbjiaiobpbpjoaaVmGhost
set_option linter.unusedSimpArgs false
set_option linter.unusedVariables false
namespace Go.Vm
open Go

/-! ### What the Go functions come to, in plain words (the shallow functions are made of these) -/
abbrev eI (k : IntKind) (x : Int) : V := .sc (.int k x)
abbrev eB (x : Bool) : V := .sc (.bool x)
abbrev eS (x : ByteArray) : V := .sc (.string x)
/-- A row of elements. -/
abbrev eL {α : Type} (K : Nat) (E : α → V) (l : List α) : V := .row none K (l.map E)
def idx {α : Type} (l : List α) (i : Int) : Option α := if 0 ≤ i then l[i.toNat]? else none
def sub {α : Type} (l : List α) (a b : Int) : Option (List α) := if 0 ≤ a ∧ a ≤ b ∧ b ≤ l.length then some ((l.take b.toNat).drop a.toNat) else none
def app {α : Type} (by_ : Nat) (l m : List α) : Option (List α) := if (l.length + m.length) * by_ ≤ lim then some (l ++ m) else none
def mks {α : Type} (by_ : Nat) (z : α) (n : Int) : Option (List α) := if 0 ≤ n ∧ n.toNat * by_ ≤ lim then some (List.replicate n.toNat z) else none
def cpy {α : Type} (l m : List α) : List α := m.take l.length ++ l.drop m.length
def quo (k : IntKind) (a b : Int) : Option Int := if b = 0 then none else some (k.wrap (a.tdiv b))
def rem (a b : Int) : Option Int := if b = 0 then none else some (a.tmod b)
def shl (k : IntKind) (a b : Int) : Option Int := if b < 0 then none else some (k.wrap (a * 2 ^ (min b.toNat k.bits)))
def shr (k : IntKind) (a b : Int) : Option Int := if b < 0 then none else some (a.fdiv (2 ^ (min b.toNat k.bits)))
/-- A loop's end: behind it, or out of the function. -/
inductive LR (σ ρ : Type) where
  | brk (s : σ)
  | ret (r : ρ)

theorem bnd {α β : Type} {o : Option α} {k : α → Option β} {r : β} (h : o.bind k = some r) : ∃ v, o = some v ∧ k v = some r := by
  cases o with
  | none => cases h
  | some v => exact ⟨v, rfl, h⟩
theorem iteT {α : Type} {c : Bool} {a b : Option α} {r : α} (h : (if c = true then a else b) = some r) (hc : c = true) : a = some r := by subst hc; exact h
theorem iteF {α : Type} {c : Bool} {a b : Option α} {r : α} (h : (if c = true then a else b) = some r) (hc : c = false) : b = some r := by subst hc; exact h

section
variable {P : Program} {O : Orc} {ops : Array Oper} {l : List Oper} {n : Nat} {fr : List (Nat × V)} {h h' : Hp} {K : List V → Hp → Prop} {op : Op} {ty : TypeId} {pos : String} {aft : Array Edge} {t : Nat} {v : V} {gd : Option (Nat × Bool)}

/-! ### Steps -/
variable {o : Oper}
theorem tS (hs : stepVal P O ops ⟨some t, op, ty, pos, aft, gd⟩ (mkF n fr) h = some (v, h')) (k : OpsTo P O ops l (mkF n ((t, v) :: fr)) h' K) : OpsTo P O ops (⟨some t, op, ty, pos, aft, gd⟩ :: l) (mkF n fr) h K :=
  OpsTo.cons (Then.mk (p := (v, h')) hs (by dsimp only; rw [putF]; exact k))
theorem tN (hs : stepVal P O ops ⟨none, op, ty, pos, aft, gd⟩ (mkF n fr) h = some (v, h')) (k : OpsTo P O ops l (mkF n fr) h' K) : OpsTo P O ops (⟨none, op, ty, pos, aft, gd⟩ :: l) (mkF n fr) h K :=
  OpsTo.cons (Then.mk (p := (v, h')) hs k)
theorem wanted_of {j u : Nat} {want c : Bool} (hg : o.guard = some (j, want)) (hj : (ops[j]?).bind (·.dst) = some u) (hl : evF n fr (.tmp u) = some (.sc (.bool c))) : wantedV ops o (mkF n fr) = some (c == want) := by
  have := evF_ev hl
  simp only [ev] at this
  unfold wantedV
  rw [hg]
  simp only [hj, this, yV]
  cases c <;> cases want <;> rfl
variable {j u : Nat} {want c : Bool} {dd : Option Tmp}
theorem sv (hd : absOp P O ⟨dd, op, ty, pos, aft, none⟩ (mkF n fr) h = some (v, h')) : stepVal P O ops ⟨dd, op, ty, pos, aft, none⟩ (mkF n fr) h = some (v, h') := by simp only [stepVal, wantedV]; exact hd
theorem svG (hj : (ops[j]?).bind (·.dst) = some u) (hl : evF n fr (.tmp u) = some (.sc (.bool c))) (hc : c = want) (hd : absOp P O ⟨dd, op, ty, pos, aft, some (j, want)⟩ (mkF n fr) h = some (v, h')) : stepVal P O ops ⟨dd, op, ty, pos, aft, some (j, want)⟩ (mkF n fr) h = some (v, h') := by
  subst hc
  simp only [stepVal, wanted_of (o := ⟨dd, op, ty, pos, aft, some (j, c)⟩) rfl hj hl, beq_self_eq_true]
  exact hd
theorem svX (hj : (ops[j]?).bind (·.dst) = some u) (hl : evF n fr (.tmp u) = some (.sc (.bool c))) (hc : c = !want) : stepVal P O ops ⟨dd, op, ty, pos, aft, some (j, want)⟩ (mkF n fr) h = some (.sc undef, h) := by
  subst hc
  simp only [stepVal, wanted_of (o := ⟨dd, op, ty, pos, aft, some (j, want)⟩) rfl hj hl]
  cases want <;> rfl
/-- The guard itself was passed over. -/
theorem svU (hj : (ops[j]?).bind (·.dst) = some u) (hl : evF n fr (.tmp u) = some (.sc undef)) : stepVal P O ops ⟨dd, op, ty, pos, aft, some (j, want)⟩ (mkF n fr) h = some (.sc undef, h) := by
  have := evF_ev hl
  simp only [ev] at this
  have hw : wantedV ops ⟨dd, op, ty, pos, aft, some (j, want)⟩ (mkF n fr) = some false := by
    unfold wantedV
    simp only [hj, this]
    cases want <;> rfl
  simp only [stepVal, hw]

/-! ### Steps in the text's order -/
def OpsW (P : Program) (N : Nat) (ops : Array Oper) (l : List Oper) (s : List V) (h : Hp) (K : List V → Hp → Prop) : Prop :=
  ∀ (k : Nat), (∀ j, l[j]? = ops[k + j]?) → ∀ (A : Nat → Prop) (M0 M : List (Option Nat)) (h0 : Hp) (w0 : World) (a : Act) (w : World) (Q : Exit → Act → World → Prop), h0.length = N → M0.length = N → Grow A M0 h0 w0 M h w → Rel A M s h a w →
    (∀ s' h' M' a' w', K s' h' → Grow A M0 h0 w0 M' h' w' → Rel A M' s' h' a' w' → Q .normal a' w') → wpOps P ops Q (List.range' k l.length) a w
variable {N : Nat} {s s' : List V}
theorem OpsW.nil (hk : K s h) : OpsW P N ops [] s h K := fun k _ A M0 M h0 w0 a w Q _ _ G R hQ => by
  simp only [List.length_nil, List.range'_zero, wpOps]
  exact hQ s h M a w hk G R
theorem OpsW.cons (hO : OrcOk P O) (hs : stepVal P O ops o s h = some (v, h')) (hk : OpsW P N ops l (putV s o.dst v) h' K) : OpsW P N ops (o :: l) s h K := fun k hl A M0 M h0 w0 a w Q hN hM G R hQ => by
  have h0' : ops[k]? = some o := by simpa using (hl 0).symm
  simp only [List.length_cons, List.range'_succ]
  rw [wpOps_cons]
  refine step_sound hO R h0' (s' := putV s o.dst v) (h' := h') (by rw [absStep_eq, hs]; rfl) fun a' w' M' G' R' => ?_
  exact hk (k + 1) (fun j => by have := hl (j + 1); simpa [Nat.add_assoc, Nat.add_comm 1 j] using this) A M0 M' h0 w0 a' w' Q hN hM (G.trans G') R' hQ
theorem OpsW.ghost (hg : Ghost N s h s' h') (hk : OpsW P N ops l s' h' K) : OpsW P N ops l s h K := fun k hl A M0 M h0 w0 a w Q hN hM G R hQ => by
  obtain ⟨t, ht⟩ := G.pre
  have hle : N ≤ M.length := by rw [← ht]; simp [hM]
  obtain ⟨M', h1, h2, h3⟩ := hg A M a w hle R
  refine hk k hl A M0 M' h0 w0 a w Q hN hM ⟨?_, h2.hr, G.ext, fun g hg hl => G.live g hg (h3 g hl)⟩ h2 hQ
  have : M0 = M'.take N := by rw [h1, ← ht, ← hM]; simp
  rw [this]
  exact List.take_prefix _ _
theorem noOrc : OrcOk P (fun _ _ _ => none) := fun _ _ _ _ _ hh => by cases hh
abbrev O0 : Orc := fun _ _ _ => none
theorem wS (hs : stepVal P O0 ops ⟨some t, op, ty, pos, aft, gd⟩ (mkF n fr) h = some (v, h')) (k : OpsW P N ops l (mkF n ((t, v) :: fr)) h' K) : OpsW P N ops (⟨some t, op, ty, pos, aft, gd⟩ :: l) (mkF n fr) h K :=
  OpsW.cons noOrc hs (by dsimp only; rw [putF]; exact k)
theorem wN (hs : stepVal P O0 ops ⟨none, op, ty, pos, aft, gd⟩ (mkF n fr) h = some (v, h')) (k : OpsW P N ops l (mkF n fr) h' K) : OpsW P N ops (⟨none, op, ty, pos, aft, gd⟩ :: l) (mkF n fr) h K :=
  OpsW.cons noOrc hs k
open Classical in
/-- An oracle that knows one call. -/
noncomputable def orc1 (f : FuncId) (h : Hp) (xs : List V) (r : V) (h' : Hp) : Orc := fun k h1 xs1 => if k = f ∧ h1 = h ∧ xs1 = xs then some (r, h') else none
theorem orc1_ok {f : FuncId} {xs : List V} {r : V} (hc : Fn P f h xs r h') : OrcOk P (orc1 f h xs r h') := fun k h1 xs1 r1 h2 hh => by
  unfold orc1 at hh
  split at hh
  · rename_i he
    obtain ⟨rfl, rfl, rfl⟩ := he
    simp only [Option.some.injEq, Prod.mk.injEq] at hh
    obtain ⟨rfl, rfl⟩ := hh
    exact hc
  · cases hh
theorem orc1_hit {f : FuncId} {xs : List V} {r : V} : orc1 f h xs r h' f h xs = some (r, h') := by simp [orc1]
theorem AB.rw {Q : Ex → List V → Hp → Prop} {id : Nat} (hr : OpsW P N l.toArray l s h (Q .normal)) : AB P N (.region id l.toArray false) Q s h := by
  intro A M0 M h0 w0 a w hN hM G R
  refine wp_region ?_
  have := hr 0 (fun j => by simp) A M0 M h0 w0 a w (fun e a' w' => ∃ x s' h' M', e = Ex.toExit x ∧ Q x s' h' ∧ Grow A M0 h0 w0 M' h' w' ∧ Rel A M' s' h' a' w') hN hM G R (fun s' h' M' a' w' hk G' R' => ⟨.normal, s', h', M', rfl, hk, G', R'⟩)
  rw [List.range_eq_range']
  simpa using this

/-! ### Operations -/
variable {d : Option Tmp} {g : Option (Nat × Bool)} {x y z : Operand} {a b : V}
theorem d_move (hx : evF n fr x = some a) : absOp P O ⟨d, .move x, ty, pos, aft, g⟩ (mkF n fr) h = some (a, h) := by simp [absOp, evF_ev hx]
theorem d_assign (hx : evF n fr x = some a) : absOp P O ⟨d, .assign x, ty, pos, aft, g⟩ (mkF n fr) h = some (a, h) := by simp [absOp, evF_ev hx]
theorem d_pickT {c : Bool} (hz : evF n fr z = some (.sc (.bool c))) (hc : c = true) (hx : evF n fr x = some a) : absOp P O ⟨d, .pick z x y, ty, pos, aft, g⟩ (mkF n fr) h = some (a, h) := by subst hc; simp [absOp, evF_ev hx, evF_ev hz]
theorem d_pickF {c : Bool} (hz : evF n fr z = some (.sc (.bool c))) (hc : c = false) (hy : evF n fr y = some a) : absOp P O ⟨d, .pick z x y, ty, pos, aft, g⟩ (mkF n fr) h = some (a, h) := by subst hc; simp [absOp, evF_ev hy, evF_ev hz]
theorem d_bin {bo : BinOp} {t u : TypeId} (hx : evF n fr x = some a) (hy : evF n fr y = some b) (hv : binV P bo t x y a b = some v) : absOp P O ⟨d, .binOp bo t x y u, ty, pos, aft, g⟩ (mkF n fr) h = some (v, h) := by simp [absOp, evF_ev hx, evF_ev hy, hv]
theorem d_un {uo : UnOp} {t : TypeId} (hx : evF n fr x = some a) (hv : unV P uo a = some v) : absOp P O ⟨d, .unOp uo t x, ty, pos, aft, g⟩ (mkF n fr) h = some (v, h) := by simp [absOp, evF_ev hx, hv]
theorem d_conv {t u : TypeId} (hx : evF n fr x = some a) (hv : convV P h t u a = some v) : absOp P O ⟨d, .convert t u x, ty, pos, aft, g⟩ (mkF n fr) h = some (v, h) := by simp [absOp, evF_ev hx, hv]
theorem d_box {e : TypeId} {i : Nat} (hx : evF n fr x = some a) (ho : a.flatOk = true) (hl : h.length = i) (hh : h ++ [some ⟨e, a.cells⟩] = h') : absOp P O ⟨d, .box e x, ty, pos, aft, g⟩ (mkF n fr) h = some (.ptr i 0, h') := by
  subst hl hh; simp [absOp, evF_ev hx, boxV, ho]
theorem d_alloc {e : TypeId} {i : Nat} {ti : TI} (ht : tiOf P e = some ti) (ho : (ti.zero.cells.toList.map ofCell).all V.one = true) (hl : h.length = i) (hh : h ++ [some ⟨e, ti.zero.cells.toList.map ofCell⟩] = h') : absOp P O ⟨d, .alloc e, ty, pos, aft, g⟩ (mkF n fr) h = some (.ptr i 0, h') := by
  subst hl hh
  simp only [absOp, allocV, ht]
  rw [if_pos ho]
theorem d_load {t : TypeId} (hx : evF n fr x = some a) (hv : loadV P t h a = some v) : absOp P O ⟨d, .load t x, ty, pos, aft, g⟩ (mkF n fr) h = some (v, h) := by simp [absOp, evF_ev hx, hv]
theorem d_store {t : TypeId} (hx : evF n fr x = some a) (hy : evF n fr y = some b) (hv : storeV P t h a b = some h') : absOp P O ⟨d, .store t x y, ty, pos, aft, g⟩ (mkF n fr) h = some (.sc undef, h') := by simp [absOp, evF_ev hx, evF_ev hy, hv]
theorem d_nilP {i o : Nat} (hx : evF n fr x = some (.ptr i o)) : absOp P O ⟨d, .nilCheck x, ty, pos, aft, g⟩ (mkF n fr) h = some (.ptr i o, h) := by simp [absOp, evF_ev hx, nilCheckV]
theorem d_nilE {es : List V} {i o : Nat} (hx : evF n fr x = some (.eptr es i o)) : absOp P O ⟨d, .nilCheck x, ty, pos, aft, g⟩ (mkF n fr) h = some (.eptr es i o, h) := by simp [absOp, evF_ev hx, nilCheckV]
theorem d_fa {t : TypeId} {f : Nat} (hx : evF n fr x = some a) (hv : fieldAtV P t a f = some v) : absOp P O ⟨d, .fieldAddr t x f, ty, pos, aft, g⟩ (mkF n fr) h = some (v, h) := by simp [absOp, evF_ev hx, hv]
theorem d_fld {t : TypeId} {f : Nat} (hx : evF n fr x = some a) (hv : fieldV P t a f = some v) : absOp P O ⟨d, .field t x f, ty, pos, aft, g⟩ (mkF n fr) h = some (v, h) := by simp [absOp, evF_ev hx, hv]
theorem d_ia {t : TypeId} (hx : evF n fr x = some a) (hy : evF n fr y = some b) (hv : indexAtV P t a b = some v) : absOp P O ⟨d, .indexAddr t x y, ty, pos, aft, g⟩ (mkF n fr) h = some (v, h) := by simp [absOp, evF_ev hx, evF_ev hy, hv]
theorem d_ix {t : TypeId} (hx : evF n fr x = some a) (hy : evF n fr y = some b) (hv : indexV P t a b = some v) : absOp P O ⟨d, .index t x y, ty, pos, aft, g⟩ (mkF n fr) h = some (v, h) := by simp [absOp, evF_ev hx, evF_ev hy, hv]
theorem d_ext {i : Nat} {vs : List V} (hx : evF n fr x = some (.tup vs)) (hv : vs[i]? = some v) : absOp P O ⟨d, .extract x i, ty, pos, aft, g⟩ (mkF n fr) h = some (v, h) := by simp [absOp, evF_ev hx, extractV, hv]
theorem d_mk {t : TypeId} (hx : evF n fr x = some a) (hy : evF n fr y = some b) (hv : makeV P t a b h = some (v, h')) : absOp P O ⟨d, .makeSlice t x y, ty, pos, aft, g⟩ (mkF n fr) h = some (v, h') := by simp [absOp, evF_ev hx, evF_ev hy, hv]
def evFs (n : Nat) (fr : List (Nat × V)) : List Operand → Option (List V)
  | [] => some []
  | o :: os => match evF n fr o, evFs n fr os with
    | some x, some xs => some (x :: xs)
    | _, _ => none
theorem evFs_evs : ∀ {os : List Operand} {xs : List V}, evFs n fr os = some xs → evs (mkF n fr) os = some xs
  | [], xs, hh => by simp only [evFs, Option.some.injEq] at hh; subst hh; rfl
  | o :: os, xs, hh => by
    simp only [evFs] at hh
    split at hh
    · rename_i x ys h1 h2
      injection hh with hh
      subst hh
      simp only [evs, List.mapM_cons, evF_ev h1, Option.bind_eq_bind, Option.bind_some, Option.pure_def]
      have := evFs_evs h2
      unfold evs at this
      rw [this]; rfl
    · cases hh
def partsF (n : Nat) (fr : List (Nat × V)) : List (Nat × Operand) → Option (List (Nat × V))
  | [] => some []
  | p :: ps => match evF n fr p.2, partsF n fr ps with
    | some x, some xs => some ((p.1, x) :: xs)
    | _, _ => none
theorem partsF_parts : ∀ {ps : List (Nat × Operand)} {xs : List (Nat × V)}, partsF n fr ps = some xs → partsV (mkF n fr) ps = some xs
  | [], xs, hh => by simp only [partsF, Option.some.injEq] at hh; subst hh; rfl
  | p :: ps, xs, hh => by
    simp only [partsF] at hh
    split at hh
    · rename_i x ys h1 h2
      injection hh with hh
      subst hh
      simp only [partsV, List.mapM_cons, evF_ev h1, Option.bind_eq_bind, Option.bind_some, Option.pure_def, Option.map_some]
      have := partsF_parts h2
      unfold partsV at this
      rw [this]; rfl
    · cases hh
theorem d_build {t : TypeId} {ps : List (Nat × Operand)} {xs : List (Nat × V)} (hp : partsF n fr ps = some xs) (hv : buildV P t xs = some v) : absOp P O ⟨d, .build t ps.toArray, ty, pos, aft, g⟩ (mkF n fr) h = some (v, h) := by
  simp [absOp, partsF_parts hp, hv]
theorem d_buildS {t : TypeId} {len : Nat} {ps : List (Nat × Operand)} {xs : List (Nat × V)} (hp : partsF n fr ps = some xs) (hv : buildSliceV P t len xs h = some (v, h')) : absOp P O ⟨d, .buildSlice t len ps.toArray, ty, pos, aft, g⟩ (mkF n fr) h = some (v, h') := by
  simp [absOp, partsF_parts hp, hv]
def optF (n : Nat) (fr : List (Nat × V)) : Option Operand → Option (Option V)
  | none => some none
  | some o => match evF n fr o with
    | some x => some (some x)
    | none => none
theorem optF_opt {o : Option Operand} {x : Option V} (hh : optF n fr o = some x) : optV (mkF n fr) o = some x := by
  cases o with
  | none => exact hh
  | some o =>
    simp only [optF] at hh
    split at hh
    · rename_i y hy; injection hh with hh; subst hh; simp [optV, evF_ev hy]
    · cases hh
theorem d_slice {t : TypeId} {lo hi : Option Operand} {vl vh : Option V} (hx : evF n fr x = some a) (h1 : optF n fr lo = some vl) (h2 : optF n fr hi = some vh) (hv : sliceV P t h a vl vh = some v) : absOp P O ⟨d, .slice t x lo hi none, ty, pos, aft, g⟩ (mkF n fr) h = some (v, h) := by
  simp [absOp, evF_ev hx, optF_opt h1, optF_opt h2, hv]
variable {as : List Operand} {ts : List TypeId} {xs : List V}
theorem d_len {t : TypeId} (hx : evF n fr x = some a) (hv : lenV P t a = some v) : absOp P O ⟨d, .call ⟨.builtin .len, #[x], #[t]⟩, ty, pos, aft, g⟩ (mkF n fr) h = some (v, h) := by
  have : evs (mkF n fr) [x] = some [a] := evFs_evs (by simp [evFs, hx])
  simp [absOp, callV, this, hv]
theorem d_append {t t' : TypeId} (hx : evF n fr x = some a) (hy : evF n fr y = some b) (hv : appendV P t t' a b h = some (v, h')) : absOp P O ⟨d, .call ⟨.builtin .append, #[x, y], #[t, t']⟩, ty, pos, aft, g⟩ (mkF n fr) h = some (v, h') := by
  have : evs (mkF n fr) [x, y] = some [a, b] := evFs_evs (by simp [evFs, hx, hy])
  simp [absOp, callV, this, hv]
theorem d_copy {t t' : TypeId} (hx : evF n fr x = some a) (hy : evF n fr y = some b) (hv : copyV P t a b h = some (v, h')) : absOp P O ⟨d, .call ⟨.builtin .copy, #[x, y], #[t, t']⟩, ty, pos, aft, g⟩ (mkF n fr) h = some (v, h') := by
  have : evs (mkF n fr) [x, y] = some [a, b] := evFs_evs (by simp [evFs, hx, hy])
  simp [absOp, callV, this, hv]
theorem d_min {ts : Array TypeId} (hx : evFs n fr as = some xs) (hv : minV P ts ty xs false = some v) : absOp P O ⟨d, .call ⟨.builtin .min, as.toArray, ts⟩, ty, pos, aft, g⟩ (mkF n fr) h = some (v, h) := by
  simp [absOp, callV, evFs_evs hx, hv]
theorem d_max {ts : Array TypeId} (hx : evFs n fr as = some xs) (hv : minV P ts ty xs true = some v) : absOp P O ⟨d, .call ⟨.builtin .max, as.toArray, ts⟩, ty, pos, aft, g⟩ (mkF n fr) h = some (v, h) := by
  simp [absOp, callV, evFs_evs hx, hv]
theorem d_call {f : FuncId} {ts : Array TypeId} (hx : evFs n fr as = some xs) (hv : O f h xs = some (v, h')) : absOp P O ⟨d, .call ⟨.value (.func f), as.toArray, ts⟩, ty, pos, aft, g⟩ (mkF n fr) h = some (v, h') := by
  simp [absOp, callV, evFs_evs hx, hv]
theorem wC {N : Nat} {f : FuncId} {ts : Array TypeId} {K : List V → Hp → Prop} {l : List Oper} (hx : evFs n fr as = some xs) (hc : Fn P f h xs v h') (k : OpsW P N ops l (mkF n ((t, v) :: fr)) h' K) : OpsW P N ops (⟨some t, .call ⟨.value (.func f), as.toArray, ts⟩, ty, pos, aft, none⟩ :: l) (mkF n fr) h K :=
  OpsW.cons (orc1_ok hc) (sv (d_call hx orc1_hit)) (by dsimp only; rw [putF]; exact k)
theorem wCG {N : Nat} {f : FuncId} {ts : Array TypeId} {K : List V → Hp → Prop} {l : List Oper} {j u : Nat} {want c : Bool} (hj : (ops[j]?).bind (·.dst) = some u) (hl : evF n fr (.tmp u) = some (.sc (.bool c))) (hcw : c = want) (hx : evFs n fr as = some xs) (hc : Fn P f h xs v h') (k : OpsW P N ops l (mkF n ((t, v) :: fr)) h' K) : OpsW P N ops (⟨some t, .call ⟨.value (.func f), as.toArray, ts⟩, ty, pos, aft, some (j, want)⟩ :: l) (mkF n fr) h K :=
  OpsW.cons (orc1_ok hc) (svG hj hl hcw (d_call hx orc1_hit)) (by dsimp only; rw [putF]; exact k)
end

/-! ### Memory -/
section
variable {P : Program} {h h' : Hp} {t e : TypeId} {ti : TI} {B : Blk} {i off : Nat} {v x : V} {cs : List V}
theorem part1 (ht : tiOf P t = some ti) (hd : isAggD ti.desc = false) (hc : cs.head? = some v) : partV P t cs = some v := by simp [partV, ht, hd, hc]
theorem partN (ht : tiOf P t = some ti) (hd : isAggD ti.desc = true) {ds : List V} (hl : ti.size ≤ cs.length) (hc : cs.take ti.size = ds) : partV P t cs = some (.agg ds) := by simp [partV, ht, hd, hl, hc]
theorem ldP (hb : h[i]? = some (some ⟨e, cs⟩)) (hp : partV P t (cs.drop off) = some v) : loadV P t h (.ptr i off) = some v := by simp [loadV, hb, hp]
theorem ldE {α : Type} {E : α → V} {l : List α} {y : α} (hi : l[i]? = some y) (hp : partV P t ((E y).cells.drop off) = some v) : loadV P t h (.eptr (l.map E) i off) = some v := by simp [loadV, hi, hp]
theorem stP (ht : tiOf P t = some ti) (hb : h[i]? = some (some ⟨e, cs⟩)) (h1 : x.flatOk = true) (h2 : x.cells.length = ti.size) (h3 : off + ti.size ≤ cs.length) (h4 : h.set i (some ⟨e, splice cs off x.cells⟩) = h') : storeV P t h (.ptr i off) x = some h' := by
  subst h4
  simp only [storeV, ht, hb]
  rw [if_pos ⟨h1, h2, h3⟩]
theorem bldS {fs : Array Field} {sz by_ : Nat} {z : Value} {pl : Array (Nat × Nat)} {ps : List (Nat × V)} (ht : tiOf P t = some ⟨.struct fs, sz, by_, z⟩) (hp : placesOf P t = some pl) (hf : fillV (fun i => pl[i]?) (z.cells.toList.map ofCell) ps = some cs) : buildV P t ps = some (.agg cs) := by
  simp only [buildV, ht, hp]
  rw [hf]; rfl
theorem bldA {m : Nat} {sz by_ : Nat} {z : Value} {ps : List (Nat × V)} (ht : tiOf P t = some ⟨.array m e, sz, by_, z⟩) (he : tiOf P e = some ti) (hf : fillV (fun i => some (i * ti.size, ti.size)) (z.cells.toList.map ofCell) ps = some cs) : buildV P t ps = some (.agg cs) := by
  simp only [buildV, ht, he]
  rw [hf]; rfl
theorem bldL {sz by_ len : Nat} {z : Value} {ps : List (Nat × V)} {ag : Bool} (ht : tiOf P t = some ⟨.slice e, sz, by_, z⟩) (he : tiOf P e = some ti) (h1 : len * ti.size ≤ 2 ^ 24 ∧ 0 < len ∧ 0 < ti.size) (hag : isAggD ti.desc = ag)
    (hf : fillV (fun i => some (i * ti.size, ti.size)) (((Array.range (len * ti.size)).map (ti.zero.cells[· % ti.zero.cells.size]!)).toList.map ofCell) ps = some cs) (h2 : cs.all V.one = true ∧ cs.length = len * ti.size) (hl : h.length = i) (hh : h ++ [some ⟨e, cs⟩] = h') :
    buildSliceV P t len ps h = some (.sl i 0 len ti.size ag, h') := by
  subst hl hh hag
  simp only [buildSliceV, ht, he]
  rw [if_pos h1]
  simp only [hf]
  rw [if_pos h2]
end

section
variable {P : Program} {h h' : Hp} {t e : TypeId} {ti : TI} {i off b : Nat} {v : V} {α : Type} {E : α → V} {l m : List α} {y : α} {k : IntKind} {j : Int} {nl : Option Bool} {sz by_ : Nat} {z : Value} {ag : Bool}
theorem idx_some (hx : idx l j = some y) : 0 ≤ j ∧ j < l.length ∧ l[j.toNat]? = some y := by
  unfold idx at hx
  split at hx
  · have := (List.getElem?_eq_some_iff.1 hx).1
    exact ⟨by assumption, by omega, hx⟩
  · cases hx
/-- The address of an element of a row. -/
theorem iaR (ht : tiOf P t = some ⟨.slice e, sz, by_, z⟩) (he : tiOf P e = some ti) (hx : idx l j = some y) : indexAtV P t (.row nl ti.size (l.map E)) (.sc (.int k j)) = some (.eptr (l.map E) j.toNat 0) := by
  obtain ⟨h1, h2, _⟩ := idx_some hx
  simp [indexAtV, ht, asIdx, he, h1, h2]
/-- .. of a local row. -/
theorem iaS {q : Nat} (hn : l.length = q) (ht : tiOf P t = some ⟨.slice e, sz, by_, z⟩) (he : tiOf P e = some ti) (h1 : ti.size = 1) (hx : idx l j = some y) : indexAtV P t (.sl b 0 q 1 ag) (.sc (.int k j)) = some (.ptr b j.toNat) := by
  obtain ⟨h2, h3, _⟩ := idx_some hx
  subst hn
  simp [indexAtV, ht, asIdx, he, h1, h2, h3]
/-- .. of a local array. -/
theorem iaA {N : Nat} (ht : tiOf P t = some ⟨.array N e, sz, by_, z⟩) (he : tiOf P e = some ti) (h1 : ti.size = 1) (hN : l.length = N) (hx : idx l j = some y) : indexAtV P t (.ptr b 0) (.sc (.int k j)) = some (.ptr b j.toNat) := by
  obtain ⟨h2, h3, _⟩ := idx_some hx
  subst hN
  simp [indexAtV, ht, asIdx, he, h1, h2, h3]
theorem ldX (ht : tiOf P t = some ti) (hd : isAggD ti.desc = false) (hb : h[b]? = some (some ⟨e, l.map E⟩)) (hx : idx l j = some y) : loadV P t h (.ptr b j.toNat) = some (E y) := by
  obtain ⟨_, _, h3⟩ := idx_some hx
  simp [loadV, hb, partV, ht, hd, h3]
theorem ldR (hx : idx l j = some y) (hp : partV P t ((E y).cells.drop off) = some v) : loadV P t h (.eptr (l.map E) j.toNat off) = some v := ldE (idx_some hx).2.2 hp
theorem splice_map (i : Nat) (hi : i < l.length) (y : α) : splice (l.map E) i [E y] = (l.set i y).map E := by
  rw [List.map_set]
  unfold splice
  apply List.ext_getElem?
  intro m
  rw [List.getElem?_set]
  by_cases hm : i = m
  · subst hm
    simp [List.getElem?_append, hi, Nat.min_eq_left (Nat.le_of_lt hi)]
  · rcases Nat.lt_or_ge m i with h1 | h1
    · rw [List.getElem?_append_left (by simp; omega), List.getElem?_append_left (by simp; omega)]
      simp [hm, h1]
    · rw [List.getElem?_append_right (by simp; omega)]
      simp only [List.length_append, List.length_take, List.length_map, List.length_cons, List.length_nil, List.getElem?_drop, hm, if_false]
      congr 1; omega
theorem stXe {w : α} (ht : tiOf P t = some ti) (hs : ti.size = 1) (hb : h[b]? = some (some ⟨e, l.map E⟩)) (hx : idx l j = some w) (ho : (E y).one = true) (hc : (E y).cells = [E y]) (hh : h.set b (some ⟨e, (l.set j.toNat y).map E⟩) = h') : storeV P t h (.ptr b j.toNat) (E y) = some h' := by
  obtain ⟨_, h2, h3⟩ := idx_some hx
  have h4 := (List.getElem?_eq_some_iff.1 h3).1
  subst hh
  simp only [storeV, ht, hb]
  rw [if_pos ⟨by simp [V.flatOk, hc, ho], by simp [hc, hs], by rw [hs]; simp; omega⟩, hc, splice_map _ h4]
theorem cellInts_map : ∀ ns : List Int, cellInts (ns.map (eI .u8)) = some ns
  | [] => rfl
  | n :: ns => by simp only [List.map_cons, eI, cellInts]; rw [show cellInts (List.map (fun x => V.sc (Value.int IntKind.u8 x)) ns) = some ns from cellInts_map ns]; rfl
theorem convB {a b' : TypeId} {ns : List Int} {x : V} {sz1 by1 sz2 by2 sz3 by3 q : Nat} {z1 z2 z3 : Value} (ha : tiOf P a = some ⟨.slice e, sz1, by1, z1⟩) (hb : tiOf P b' = some ⟨.string, sz2, by2, z2⟩) (he : tiOf P e = some ⟨.int .u8, sz3, by3, z3⟩) (hs : srcV h 1 x = some (ns.map (eI .u8), q)) : convV P h a b' x = some (.sc (.string (strOf ns))) := by
  simp only [convV, bytesStrV, ha, hb, he, hs, cellInts_map, Option.map_some]
theorem lenR (ht : tiOf P t = some ⟨.slice e, sz, by_, z⟩) {k : Nat} : lenV P t (.row nl k (l.map E)) = some (.sc (.int .i64 l.length)) := by simp [lenV, ht]
theorem lenS (ht : tiOf P t = some ⟨.slice e, sz, by_, z⟩) {k m : Nat} : lenV P t (.sl b off m k ag) = some (.sc (.int .i64 m)) := by simp [lenV, ht]
theorem lenT (ht : tiOf P t = some ⟨.string, sz, by_, z⟩) {s : ByteArray} : lenV P t (.sc (.string s)) = some (.sc (.int .i64 s.size)) := by simp [lenV, ht]
/-- append to a local row that is used whole. -/
theorem appS {q : Nat} (hn : l.length = q) (ht : tiOf P t = some ⟨.slice e, sz, by_, z⟩) (he : tiOf P e = some ti) (h1 : ti.zero.cells.size = 1 ∧ ti.size = 1 ∧ 1 ≤ ti.bytes) (hb : h[b]? = some (some ⟨e, l.map E⟩)) {s : V} (hs : srcV h 1 s = some (m.map E, m.length))
    {r : List α} (ha : app ti.bytes l m = some r) (hl : h.length = i) (hh : h.set b none ++ [some ⟨e, r.map E⟩] = h') : appendV P t t (.sl b 0 q 1 ag) s h = some (.sl i 0 r.length 1 ag, h') := by
  obtain ⟨h2, h3, h4⟩ := h1
  subst hn
  unfold app at ha
  split at ha
  · rename_i hlim
    injection ha with ha
    subst ha hl hh
    have hx : srcV h ti.size s = some (m.map E, m.length) := by rw [h3]; exact hs
    simp only [appendV, ne_eq, not_true, if_false, ht, he]
    rw [if_pos ⟨by rw [h2, h3], by omega, h4⟩]
    simp only [hx, hb]
    rw [if_pos ⟨h3.symm, trivial, by simp, hlim⟩]
    simp [List.take_of_length_le]
  · cases ha
/-- append to nil. -/
theorem appN (ht : tiOf P t = some ⟨.slice e, sz, by_, z⟩) (he : tiOf P e = some ti) (h1 : ti.zero.cells.size = 1 ∧ ti.size = 1 ∧ 1 ≤ ti.bytes) {s : V} (hs : srcV h 1 s = some (m.map E, m.length)) (hag : isAggD ti.desc = ag) {kk : Nat}
    {r : List α} (ha : app ti.bytes [] m = some r) (hl : h.length + 1 = i) (hh : h ++ [none] ++ [some ⟨e, r.map E⟩] = h') : appendV P t t (.row (some true) kk []) s h = some (.sl i 0 r.length 1 ag, h') := by
  obtain ⟨h2, h3, h4⟩ := h1
  unfold app at ha
  split at ha
  · rename_i hlim
    injection ha with ha
    subst ha hl hh hag
    have hx : srcV h ti.size s = some (m.map E, m.length) := by rw [h3]; exact hs
    simp only [appendV, ne_eq, not_true, if_false, ht, he]
    rw [if_pos ⟨by rw [h2, h3], by omega, h4⟩]
    simp only [hx]
    rw [if_pos (by simpa using hlim)]
    simp [h3]
  · cases ha
theorem srcR (hE : ∀ x, (E x).cells = [E x]) : srcV h 1 (.row nl 1 (m.map E)) = some (m.map E, m.length) := by
  have : (m.map E).flatMap V.cells = m.map E := by
    induction m with
    | nil => rfl
    | cons x m ih => simp only [List.map_cons, List.flatMap_cons, hE, ih]; rfl
  simp only [srcV]
  rw [if_pos (.inl trivial), this]; simp
theorem srcS {q : Nat} (hn : m.length = q) (hb : h[b]? = some (some ⟨e, m.map E⟩)) : srcV h 1 (.sl b 0 q 1 ag) = some (m.map E, m.length) := by
  subst hn
  simp only [srcV, hb]
  rw [if_pos ⟨trivial, by simp⟩]; simp [List.take_of_length_le]
theorem srcN {kk : Nat} : srcV h 1 (.row nl kk []) = some (([] : List α).map E, ([] : List α).length) := by simp [srcV]
theorem mkS {y : α} (ht : tiOf P t = some ⟨.slice e, sz, by_, z⟩) (he : tiOf P e = some ti) (h1 : 1 ≤ ti.bytes ∧ ti.size = 1 ∧ ti.zero.cells.size = 1) (hz : ti.zero.cells.toList.map ofCell = [E y]) (ho : (E y).one = true) (hag : isAggD ti.desc = ag) {r : List α}
    (hm : mks ti.bytes y j = some r) (hl : h.length = i) (hh : h ++ [some ⟨e, r.map E⟩] = h') : makeV P t (.sc (.int .i64 j)) (.sc (.int .i64 j)) h = some (.sl i 0 r.length 1 ag, h') := by
  obtain ⟨h2, h3, h4⟩ := h1
  unfold mks at hm
  split at hm
  · rename_i hlim
    injection hm with hm
    subst hm hl hh hag
    simp only [makeV, ht, he]
    rw [if_pos ⟨hlim.1, Int.le_refl _, hlim.2, h2, by omega, by rw [h4, h3], by rw [hz]; simp [ho]⟩, hz]
    simp only [h3]
    have : ∀ n, (List.replicate n [E y]).flatten = (List.replicate n y).map E := fun n => by
      induction n with
      | zero => rfl
      | succ n ih => simp only [List.replicate_succ, List.flatten_cons, ih, List.map_cons]; rfl
    rw [this]; simp
  · cases hm
theorem cpyS {q : Nat} (hn : l.length = q) (ht : tiOf P t = some ⟨.slice e, sz, by_, z⟩) (he : tiOf P e = some ti) (h1 : ti.size = 1) (hb : h[b]? = some (some ⟨e, l.map E⟩)) {s : V} (hs : srcV h 1 s = some (m.map E, m.length)) (hh : h.set b (some ⟨e, (cpy l m).map E⟩) = h') :
    copyV P t (.sl b 0 q 1 ag) s h = some (.sc (.int .i64 (min m.length l.length : Nat)), h') := by
  subst hh hn
  simp only [copyV, ht, he, h1, hs, hb]
  rw [if_pos ⟨trivial, by omega, by simp⟩]
  simp only [Option.some.injEq, Prod.mk.injEq, true_and]
  congr 3
  unfold splice cpy
  simp only [List.map_append, List.map_take, List.map_drop, List.take_zero, List.nil_append, Nat.zero_add, Nat.mul_one, List.length_take, List.length_map]
  congr 1
  · rw [Nat.min_comm, ← List.take_take, List.take_of_length_le (i := m.length) (by simp)]
  · rcases Nat.le_total m.length l.length with hle | hle
    · congr 1; omega
    · rw [List.drop_eq_nil_of_le (by simp; omega), List.drop_eq_nil_of_le (by simp; omega)]
theorem slR (ht : tiOf P t = some ⟨.slice e, sz, by_, z⟩) (he : tiOf P e = some ti) {lo hi : Option V} {a c : Int} {r : List α} (h1 : asLo lo = some a) (h2 : asHi hi l.length = some c) (hs : sub l a c = some r) : sliceV P t h (.row nl ti.size (l.map E)) lo hi = some (.row nl ti.size (r.map E)) := by
  unfold sub at hs
  split at hs
  · rename_i hc
    injection hs with hs
    subst hs
    have h2' : asHi hi (l.map E).length = some c := by simpa using h2
    simp only [sliceV, ht, he, h1, h2']
    rw [if_pos ⟨trivial, hc.1, hc.2.1, by simpa using hc.2.2⟩]
    simp [List.map_take, List.map_drop]
  · cases hs
end
section
variable (P : Program) (t : TypeId) (xo yo : Operand)
theorem bin_quo' {k : IntKind} {a b r : Int} (h : quo k a b = some r) : binV P .quo t xo yo (.sc (.int k a)) (.sc (.int k b)) = some (.sc (.int k r)) := by
  rw [bin_quo]; unfold quo at h; split at h
  · cases h
  · rename_i hb; injection h with h; rw [if_neg hb, h]
theorem bin_rem' {k : IntKind} {a b r : Int} (h : rem a b = some r) : binV P .rem t xo yo (.sc (.int k a)) (.sc (.int k b)) = some (.sc (.int k r)) := by
  rw [bin_rem]; unfold rem at h; split at h
  · cases h
  · rename_i hb; injection h with h; rw [if_neg hb, h]
theorem bin_shl' {k k' : IntKind} {a b r : Int} (h : shl k a b = some r) : binV P .shl t xo yo (.sc (.int k a)) (.sc (.int k' b)) = some (.sc (.int k r)) := by
  rw [bin_shl]; unfold shl at h; split at h
  · cases h
  · rename_i hb; injection h with h; rw [if_neg hb, h]
theorem bin_shr' {k k' : IntKind} {a b r : Int} (h : shr k a b = some r) : binV P .shr t xo yo (.sc (.int k a)) (.sc (.int k' b)) = some (.sc (.int k r)) := by
  rw [bin_shr]; unfold shr at h; split at h
  · cases h
  · rename_i hb; injection h with h; rw [if_neg hb, h]
end

/-! ### Whole functions -/
section
variable {P : Program} {N n : Nat} {Q : Ex → List V → Hp → Prop} {s : List V} {h h' : Hp} {fr : List (Nat × V)}
theorem AB.seq_k {c d : Code} (hh : ∀ K : List V → Hp → Prop, (∀ s h, AB P N d Q s h → K s h) → AB P N c (Ex.then K Q) s h) : AB P N (.seq c d) Q s h := AB.seq (hh _ fun _ _ hk => hk)
theorem AB.cnd {c : Operand} {x y : Code} {t : Bool} (hc : evF n fr c = some (.sc (.bool t))) (h1 : t = true → AB P N x Q (mkF n fr) h) (h2 : t = false → AB P N y Q (mkF n fr) h) : AB P N (.cond c x y) Q (mkF n fr) h := AB.cond (evF_ev hc) h1 h2
def num : Nat → List V → List (Nat × V)
  | _, [] => []
  | i, x :: xs => (i, x) :: num (i + 1) xs
theorem num_look : ∀ {xs : List V} {i t : Nat} {y : V}, look (num i xs) t = some y → i ≤ t ∧ xs[t - i]? = some y
  | [], i, t, y, hy => by cases hy
  | x :: xs, i, t, y, hy => by
    simp only [num, look] at hy
    cases hb : Nat.beq i t with
    | true =>
      rw [hb] at hy
      have := Nat.eq_of_beq_eq_true hb
      subst this
      simp only [cond_true, Option.some.injEq] at hy
      subst hy
      simp
    | false =>
      rw [hb] at hy
      obtain ⟨h1, h2⟩ := num_look (xs := xs) (i := i + 1) hy
      refine ⟨by omega, ?_⟩
      rw [show t - i = (t - (i + 1)) + 1 by omega]
      simpa using h2
/-- What a function's end must show. -/
def Done (P : Program) (fn : Func) (N : Nat) (r : V) (h' : Hp) : Ex → List V → Hp → Prop := fun x s h => (∀ id, x ≠ .exit id) ∧ ∃ r1, resV P fn s h = some r1 ∧ Ghost N (mkF 1 [(0, r1)]) h (mkF 1 [(0, r)]) h'
theorem fn_ab {f : FuncId} {fn : Func} {c : Code} {args : List V} {r : V} (hf : P.funcs[f]? = some fn) (hb : fn.body = some c) (hn : (fn.name == "runtime.NumGoroutine") = false) (hnt : fn.ntmps = n) (hal : args.length ≤ n) (hN : h.length = N) (hfr : num 0 args = fr)
    (hh : AB P N c (Done P fn N r h') (mkF n fr) h) : Fn P f h args r h' := by
  intro A M w vs H hargs
  refine .inl ⟨run_enter hf (by rw [hb]; rfl) hn _ _, calls_of_wp hf hb ?_⟩
  have R0 := frame_rel (fn := fn) H hargs
  have R1 : Rel A M (mkF n fr) h { tmps := vs.toArray ++ Array.replicate (fn.ntmps - vs.toArray.size) undef, defers := [] } w := by
    refine ⟨R0.hr, ⟨?_, fun t x hx => ?_⟩, R0.defers⟩
    · rw [mkF_len, ← R0.sr.len]
      simp [frame0, hnt]; omega
    · have ht : t < n := by have := (List.getElem?_eq_some_iff.1 hx).1; rw [mkF_len] at this; exact this
      rw [mkF_get ht] at hx
      injection hx with hx
      cases hl : look fr t with
      | none => rw [hl] at hx; subst hx; unfold VR; trivial
      | some z =>
        rw [hl] at hx
        subst hx hfr
        obtain ⟨_, h2⟩ := num_look hl
        refine R0.sr.val t z ?_
        unfold frame0
        rw [List.getElem?_append_left (by have := (List.getElem?_eq_some_iff.1 h2).1; omega)]
        simpa using h2
  refine Code.wp_mono (fun e a' w' ⟨x, s1, h1, M1, he, ⟨hx, r1, hres, hg⟩, G, R2⟩ => ?_) (hh A M M h w _ w hN (by rw [H.len]; exact hN) (Grow.refl H) R1)
  subst he
  obtain ⟨t, ht⟩ := G.pre
  have hMN : M.length = N := by rw [H.len]; exact hN
  obtain ⟨v, hv, hr⟩ := resV_sound R2 hres
  have Rv : Rel A M1 (mkF 1 [(0, r1)]) h1 { tmps := #[v], defers := [] } w' := ⟨R2.hr, ⟨rfl, fun t x hx => by
    cases t with
    | zero => simp [mkF, look] at hx; subst hx; exact hr
    | succ t => rw [List.getElem?_eq_none (by rw [mkF_len]; omega)] at hx; cases hx⟩, rfl⟩
  obtain ⟨M', e1, R3, l3⟩ := hg A M1 _ w' (by rw [← ht]; simp [hMN]) Rv
  have hr' : VR (Xs A M' h') M' w' r v := R3.sr.val 0 r rfl
  have G' : Grow A M h w M' h' w' := ⟨by
    have : M = M'.take N := by rw [e1, ← ht, ← hMN]; simp
    rw [this]
    exact List.take_prefix _ _, R3.hr, G.ext, fun g hg hl => G.live g hg (l3 g hl)⟩
  cases x with
  | normal => exact ⟨R2.defers, v, hv, v, rfl, M', G', hr'⟩
  | ret => exact ⟨R2.defers, v, hv, v, rfl, M', G', hr'⟩
  | exit id => exact absurd rfl (hx id)
theorem done_ret {fn : Func} {r r1 : V} (hr : resV P fn s h = some r1) (hg : Ghost N (mkF 1 [(0, r1)]) h (mkF 1 [(0, r)]) h') : Done P fn N r h' .ret s h := ⟨fun id hh => (by cases hh), r1, hr, hg⟩
theorem done_norm {fn : Func} {r r1 : V} (hr : resV P fn s h = some r1) (hg : Ghost N (mkF 1 [(0, r1)]) h (mkF 1 [(0, r)]) h') : Done P fn N r h' .normal s h := ⟨fun id hh => (by cases hh), r1, hr, hg⟩
variable {fn : Func}
theorem rvT {t : Nat} {x : V} (hx : evF n fr (.tmp t) = some x) : resVar P (mkF n fr) h (.tmp t) = some x := evF_ev hx
theorem rvC {t : Nat} {ty : TypeId} {v : V} {i o : Nat} (hx : evF n fr (.tmp t) = some (.ptr i o)) (hv : loadV P ty h (.ptr i o) = some v) : resVar P (mkF n fr) h (.cell t ty) = some v := by
  have := evF_ev hx
  simp only [ev] at this
  simp [resVar, this, nilCheckV, hv]
theorem res0 (hr : fn.results = #[]) : resV P fn s h = some (.tup []) := by simp [resV, hr]
theorem res1 {a : ResultVar} {x : V} (hr : fn.results = #[a]) (h1 : resVar P s h a = some x) : resV P fn s h = some x := by simp [resV, hr, h1]
theorem res2 {a b : ResultVar} {x y : V} (hr : fn.results = #[a, b]) (h1 : resVar P s h a = some x) (h2 : resVar P s h b = some y) : resV P fn s h = some (.tup [x, y]) := by simp [resV, hr, h1, h2]
theorem res3 {a b c : ResultVar} {x y z : V} (hr : fn.results = #[a, b, c]) (h1 : resVar P s h a = some x) (h2 : resVar P s h b = some y) (h3 : resVar P s h c = some z) : resV P fn s h = some (.tup [x, y, z]) := by simp [resV, hr, h1, h2, h3]
end
theorem rns_map {α : Type} {E : α → V} {f : Nat → Nat} (hE : ∀ x, (E x).rn f = E x) : ∀ l : List α, V.rns f (l.map E) = l.map E
  | [] => rfl
  | x :: l => by simp [V.rns, hE, rns_map hE l]
theorem les_map {α : Type} {E : α → V} {f : Nat → Nat} {vn : Nat → Bool} (hE : ∀ x, (E x).rn f = E x) (l : List α) : V.les vn (l.map E) (V.rns f (l.map E)) := by rw [rns_map hE]; exact V.les_refl _ _
theorem V.le_agg {vn : Nat → Bool} {cs ds : List V} (h : V.les vn cs ds) : V.le vn (.agg cs) (.agg ds) := by unfold V.le; exact h
theorem V.le_tup {vn : Nat → Bool} {cs ds : List V} (h : V.les vn cs ds) : V.le vn (.tup cs) (.tup ds) := by unfold V.le; exact h
theorem V.les_nil {vn : Nat → Bool} : V.les vn [] [] := by unfold V.les; trivial
theorem V.les_cons {vn : Nat → Bool} {c d : V} {cs ds : List V} (h : V.le vn c d) (k : V.les vn cs ds) : V.les vn (c :: cs) (d :: ds) := by unfold V.les; exact ⟨h, k⟩
theorem len_set {α : Type} (l : List α) (i : Nat) (x : α) : (l.set i x).length = l.length := List.length_set
theorem len_cpy {α : Type} (l m : List α) : (cpy l m).length = l.length := by simp [cpy]; omega
end Go.Vm
