import Derived.WalkKit
import Derived.Maps.AppendAt
set_option linter.unusedSimpArgs false
set_option linter.unusedVariables false
namespace Go.Vm
open Go

inductive V where
  | sc (v : Value)
  | row (nil : Option Bool) (k : Nat) (es : List V)
  | agg (cs : List V)
  | tup (vs : List V)
  | ptr (b off : Nat)
  | sl (b off n k : Nat) (ag : Bool)
  | eptr (es : List V) (i off : Nat)
  | mp (b : Nat)
  | any
  deriving Inhabited

/-- The package variables that are laid in the world: what lies in block g. -/
def GT : Nat → Option V := fun _ => none
def V.one : V → Bool
  | .sc v => v.oneCell'
  | .agg _ | .tup _ | .any => false
  | _ => true
def V.cells : V → List V
  | .agg cs => cs
  | x => [x]
/-- A value whose cells are each of one cell. -/
def V.flatOk (x : V) : Bool := x.cells.all V.one
def V.okElem (k : Nat) (x : V) : Bool := x.flatOk && x.cells.length == k
/-- The cells of a value lie at an address. -/
def LiesAt (w : World) (ad : Addr) (vs : Array Value) : Prop := ∀ j u, vs[j]? = some u → w.cell? (ad.add j) = some u

mutual
def VR (X : Nat → Prop) (M : List (Option Nat)) (w : World) : V → Value → Prop
  | .sc c, v => v = c
  | .any, _ => True
  | .row nil k es, v => ∃ a cap, v = .slice a es.length cap ∧ es.length ≤ cap ∧ (a = none → cap = 0) ∧ (∀ b, nil = some b → a.isNone = b) ∧ (∀ e ∈ es, e.okElem k = true) ∧
      (es ≠ [] → ∃ ad, a = some ad ∧ 0 < k ∧ ¬ X ad.block ∧ ad.spot = none ∧ VRow X [] w k es ad)
  | .agg cs, v => ∃ vs : List Value, v = .agg vs.toArray ∧ VCells X M w cs vs
  | .tup cs, v => ∃ vs : List Value, v = .tuple vs.toArray ∧ VCells X M w cs vs
  | .ptr b off, v => ∃ g sh, M[b]? = some (some g) ∧ v = .pointer (some ⟨g, off, none⟩) ∧ w.shape? g = some sh
  | .mp b, v => ∃ g, M[b]? = some (some g) ∧ v = .map (some g) ∧ g < w.heap.size ∧ w.shape? g = none
  | .sl b off n k _, v => (M[b]? = some none ∧ v = .slice none 0 0 ∧ n = 0 ∧ off = 0) ∨
      ∃ g cap e sz, M[b]? = some (some g) ∧ v = .slice (some ⟨g, off, none⟩) n cap ∧ n ≤ cap ∧ cap ≤ maxLen ∧ 0 < k ∧ w.shape? g = some (e, sz) ∧ off + cap * k ≤ sz
  | .eptr es i off, v => ∃ ad k, v = .pointer (some (ad.add (i * k + off))) ∧ 0 < k ∧ (es ≠ [] → ¬ X ad.block) ∧ ad.spot = none ∧ (∀ e ∈ es, e.okElem k = true) ∧ VRow X [] w k es ad
def VCells (X : Nat → Prop) (M : List (Option Nat)) (w : World) : List V → List Value → Prop
  | [], vs => vs = []
  | c :: cs, vs => ∃ v rest, vs = v :: rest ∧ VR X M w c v ∧ VCells X M w cs rest
def VRow (X : Nat → Prop) (M : List (Option Nat)) (w : World) (k : Nat) : List V → Addr → Prop
  | [], _ => True
  | e :: es, ad => (∃ v, VR X M w e v ∧ v.cells.size = k ∧ LiesAt w ad v.cells) ∧ VRow X M w k es (ad.add k)
end

/-- What a step does to the world: only blocks of S may change. -/
structure Ext (S : Nat → Prop) (w w' : World) : Prop where
  os : w'.os = w.os
  tape : w'.tape = w.tape
  output : w'.output = w.output
  size : w.heap.size ≤ w'.heap.size
  block : ∀ g, g < w.heap.size → ¬ S g → w'.heap[g]? = w.heap[g]?
  shape : ∀ g sh, w.shape? g = some sh → w'.shape? g = some sh
  nshape : ∀ g, g < w.heap.size → w.shape? g = none → w'.shape? g = none

theorem Ext.refl (S : Nat → Prop) (w : World) : Ext S w w := ⟨rfl, rfl, rfl, Nat.le_refl _, fun _ _ _ => rfl, fun _ _ h => h, fun _ _ h => h⟩
theorem Ext.trans {S : Nat → Prop} {a b c : World} (h : Ext S a b) (k : Ext S b c) : Ext S a c :=
  ⟨k.os.trans h.os, k.tape.trans h.tape, k.output.trans h.output, Nat.le_trans h.size k.size,
   fun g hg hs => (k.block g (Nat.lt_of_lt_of_le hg h.size) hs).trans (h.block g hg hs), fun g sh e => k.shape g sh (h.shape g sh e), fun g hg e => k.nshape g (Nat.lt_of_lt_of_le hg h.size) (h.nshape g hg e)⟩
theorem Ext.mono {S S' : Nat → Prop} {a b : World} (h : Ext S a b) (hs : ∀ g, g < a.heap.size → S g → S' g) : Ext S' a b :=
  ⟨h.os, h.tape, h.output, h.size, fun g hg hn => h.block g hg (fun hS => hn (hs g hg hS)), h.shape, h.nshape⟩
theorem Ext.below {S : Nat → Prop} {w w' : World} (h : Ext S w w') (hs : ∀ g, g < w.heap.size → ¬ S g) : RowKit.Below w.heap.size w w' :=
  ⟨h.os, h.tape, h.output, h.size, fun g hg => h.block g hg (hs g hg)⟩

theorem cell_lt {w : World} {a : Addr} {u : Value} (h : w.cell? a = some u) : a.block < w.heap.size := by
  unfold World.cell? at h
  rcases Nat.lt_or_ge a.block w.heap.size with hl | hl
  · exact hl
  · rw [Array.getElem?_eq_none hl] at h; cases h

theorem add_block (a : Addr) (n : Nat) : (a.add n).block = a.block := by unfold Addr.add; split <;> rfl
theorem add_spot (a : Addr) (n : Nat) (h : a.spot = none) : (a.add n).spot = none := by unfold Addr.add; split <;> simp [h]
theorem add_add (a : Addr) (i j : Nat) : (a.add i).add j = a.add (i + j) := by
  unfold Addr.add
  by_cases hi : i = 0 <;> by_cases hj : j = 0 <;> simp [hi, hj, Nat.add_assoc]

theorem Ext.cell {S : Nat → Prop} {w w' : World} (h : Ext S w w') {a : Addr} {u : Value} (hs : ¬ S a.block) (hc : w.cell? a = some u) : w'.cell? a = some u := by
  rw [World.cell?_of_block (h.block a.block (cell_lt hc) hs)]; exact hc

theorem LiesAt.ext {S : Nat → Prop} {w w' : World} (h : Ext S w w') {ad : Addr} {vs : Array Value} (hs : ¬ S ad.block) (hl : LiesAt w ad vs) : LiesAt w' ad vs :=
  fun j u hu => h.cell (by rw [add_block]; exact hs) (hl j u hu)
theorem LiesAt.lt {w : World} {ad : Addr} {vs : Array Value} (h : LiesAt w ad vs) (h0 : 0 < vs.size) : ad.block < w.heap.size := by
  have := cell_lt (h 0 vs[0] (by simp [h0]))
  rwa [add_block] at this

theorem row_lt {X : Nat → Prop} {M : List (Option Nat)} {w : World} {k : Nat} {es : List V} {ad : Addr} (h : VRow X M w k es ad) (hk : 0 < k) (hne : es ≠ []) : ad.block < w.heap.size := by
  cases es with
  | nil => exact absurd rfl hne
  | cons e es =>
    unfold VRow at h
    obtain ⟨⟨v, _, hsz, hl⟩, _⟩ := h
    exact hl.lt (by omega)

theorem prefix_get {M M' : List (Option Nat)} (h : M <+: M') {b : Nat} {g : Option Nat} (hb : M[b]? = some g) : M'[b]? = some g := by
  obtain ⟨t, rfl⟩ := h
  have hl : b < M.length := (List.getElem?_eq_some_iff.1 hb).1
  rw [List.getElem?_append_left hl]
  exact hb

section
variable {X X' S : Nat → Prop} {w w' : World}
mutual
theorem VR.ext {M M' : List (Option Nat)} (hE : Ext S w w') (hM : M <+: M') (hS : ∀ g, g < w.heap.size → S g → X g) (hX : ∀ g, g < w.heap.size → X' g → X g) : ∀ (x : V) (v : Value), VR X M w x v → VR X' M' w' x v
  | .sc c, v, h => by unfold VR at *; exact h
  | .any, v, h => by unfold VR; trivial
  | .row nil k es, v, h => by
    unfold VR at *
    obtain ⟨a, cap, hv, hc, h1, h2, h4, h3⟩ := h
    refine ⟨a, cap, hv, hc, h1, h2, h4, fun hne => ?_⟩
    obtain ⟨ad, ha, hk, hx, hsp, hr⟩ := h3 hne
    have hlt := row_lt hr hk hne
    exact ⟨ad, ha, hk, fun hx' => hx (hX _ hlt hx'), hsp, VRow.ext hE (List.prefix_refl _) hS hX k es ad hx hr⟩
  | .agg cs, v, h => by
    unfold VR at *
    obtain ⟨vs, hv, hc⟩ := h
    exact ⟨vs, hv, VCells.ext hE hM hS hX cs vs hc⟩
  | .tup cs, v, h => by
    unfold VR at *
    obtain ⟨vs, hv, hc⟩ := h
    exact ⟨vs, hv, VCells.ext hE hM hS hX cs vs hc⟩
  | .ptr b off, v, h => by
    unfold VR at *
    obtain ⟨g, sh, hg, hv, hs⟩ := h
    exact ⟨g, sh, prefix_get hM hg, hv, hE.shape _ _ hs⟩
  | .mp b, v, h => by
    unfold VR at *
    obtain ⟨g, hg, hv, hl, hs⟩ := h
    exact ⟨g, prefix_get hM hg, hv, Nat.lt_of_lt_of_le hl hE.size, hE.nshape _ hl hs⟩
  | .sl b off n k _, v, h => by
    unfold VR at *
    rcases h with ⟨h1, h2⟩ | ⟨g, cap, e, sz, hg, hv, h1, h2, h3, h4, h5⟩
    · exact .inl ⟨prefix_get hM h1, h2⟩
    · exact .inr ⟨g, cap, e, sz, prefix_get hM hg, hv, h1, h2, h3, hE.shape _ _ h4, h5⟩
  | .eptr es i off, v, h => by
    unfold VR at *
    obtain ⟨ad, k, hv, hk, hx, hsp, hok, hr⟩ := h
    by_cases hne : es = []
    · subst hne
      exact ⟨ad, k, hv, hk, fun h => absurd rfl h, hsp, hok, by unfold VRow; trivial⟩
    · have hlt := row_lt hr hk hne
      exact ⟨ad, k, hv, hk, fun _ hx' => hx hne (hX _ hlt hx'), hsp, hok, VRow.ext hE (List.prefix_refl _) hS hX k es ad (hx hne) hr⟩
theorem VCells.ext {M M' : List (Option Nat)} (hE : Ext S w w') (hM : M <+: M') (hS : ∀ g, g < w.heap.size → S g → X g) (hX : ∀ g, g < w.heap.size → X' g → X g) : ∀ (cs : List V) (vs : List Value), VCells X M w cs vs → VCells X' M' w' cs vs
  | [], vs, h => by unfold VCells at *; exact h
  | c :: cs, vs, h => by
    unfold VCells at *
    obtain ⟨v, rest, hv, h1, h2⟩ := h
    exact ⟨v, rest, hv, VR.ext hE hM hS hX c v h1, VCells.ext hE hM hS hX cs rest h2⟩
theorem VRow.ext {M M' : List (Option Nat)} (hE : Ext S w w') (hM : M <+: M') (hS : ∀ g, g < w.heap.size → S g → X g) (hX : ∀ g, g < w.heap.size → X' g → X g) (k : Nat) : ∀ (es : List V) (ad : Addr), ¬ X ad.block → VRow X M w k es ad → VRow X' M' w' k es ad
  | [], ad, _, h => by unfold VRow; trivial
  | e :: es, ad, hx, h => by
    unfold VRow at *
    obtain ⟨⟨v, h1, h2, h3⟩, h4⟩ := h
    refine ⟨⟨v, VR.ext hE hM hS hX e v h1, h2, ?_⟩, VRow.ext hE hM hS hX k es (ad.add k) (by rw [add_block]; exact hx) h4⟩
    intro j u hu
    have hc := h3 j u hu
    exact hE.cell (fun hs => by
      have hlt := cell_lt hc
      have := hS _ hlt hs
      rw [add_block] at this; exact hx this) hc
end
end

/-- The world has the laid variables. -/
def Globs (X : Nat → Prop) (w : World) : Prop := ∀ g e, GT g = some e → VR X [] w (.eptr [e] 0 0) (.pointer (some ⟨g, 0, none⟩))
theorem Globs.ext {X X' S : Nat → Prop} {w w' : World} (hE : Ext S w w') (hS : ∀ g, g < w.heap.size → S g → X g) (hX : ∀ g, g < w.heap.size → X' g → X g) (h : Globs X w) : Globs X' w' :=
  fun g e he => VR.ext hE (List.prefix_refl _) hS hX _ _ (h g e he)
theorem Globs.avoid {X X' : Nat → Prop} {w : World} (hX : ∀ g, g < w.heap.size → X' g → X g) (h : Globs X w) : Globs X' w :=
  h.ext (Ext.refl (fun _ => False) w) (fun _ _ h => h.elim) hX

theorem VR.lift {X : Nat → Prop} {M : List (Option Nat)} {w : World} {x : V} {v : Value} (h : VR X [] w x v) : VR X M w x v :=
  VR.ext (Ext.refl (fun _ => False) w) (List.nil_prefix) (fun _ _ h => h.elim) (fun _ _ h => h) x v h
theorem VCells.lift {X : Nat → Prop} {M : List (Option Nat)} {w : World} {cs : List V} {vs : List Value} (h : VCells X [] w cs vs) : VCells X M w cs vs :=
  VCells.ext (Ext.refl (fun _ => False) w) (List.nil_prefix) (fun _ _ h => h.elim) (fun _ _ h => h) cs vs h

/-! ### The local blocks -/
structure Blk where
  e : TypeId
  cells : List V
abbrev Hp := List (Option Blk)

def Live (M : List (Option Nat)) (h : Hp) (g : Nat) : Prop := ∃ (b : Nat) (B : Blk), h[b]? = some (some B) ∧ M[b]? = some (some g)
def Xs (A : Nat → Prop) (M : List (Option Nat)) (h : Hp) (g : Nat) : Prop := A g ∨ Live M h g

/-- The entries of a map, its cells one behind the other. -/
def flatEs (es : List MapEntry) : List Value := es.flatMap fun e => e.key.cells.toList ++ e.val.cells.toList
/-- The shape of a value: 0 for one cell, n for an aggregate of n cells. -/
def ShapeN (n : Nat) (v : Value) : Prop := if n = 0 then v.oneCell' = true else ∃ xs : Array Value, v = .agg xs ∧ xs.size = n
/-- A map whose keys have the shape e / 1000 and whose values have the shape e % 1000; the stamps are below the clock. -/
structure MapOk (e : Nat) (es : Array MapEntry) (clock : Nat) (cs : Array Value) : Prop where
  cells : cs.toList = flatEs es.toList
  shp : ∀ x ∈ es.toList, ShapeN (e / 1000) x.key ∧ ShapeN (e % 1000) x.val
  born : ∀ x ∈ es.toList, x.born < clock
/-- A block of cells, none of which is frozen (a block that was made out of a string bears a mark behind its last cell), or a map. -/
def Holds (w : World) (g : Nat) (cs : Array Value) (e : TypeId) (n : Nat) : Prop := (∃ f : Nat × Nat, (f = (0, 0) ∨ f = (cs.size, cs.size + 1)) ∧ w.heap[g]? = some (.cells cs e f)) ∨ ∃ es clock, w.heap[g]? = some (.map es clock) ∧ MapOk e es clock cs ∧ n = cs.size
theorem Holds.new {w : World} {g : Nat} {cs : Array Value} {e n : Nat} (h : w.heap[g]? = some (.cells cs e)) : Holds w g cs e n := .inl ⟨_, .inl rfl, h⟩
theorem Holds.to {w w' : World} {g : Nat} {cs : Array Value} {e n : Nat} (h : Holds w g cs e n) (hw : w'.heap[g]? = w.heap[g]?) : Holds w' g cs e n := by
  rcases h with ⟨f, h1, h2⟩ | ⟨es, c, h1, h2⟩
  · exact .inl ⟨f, h1, hw.trans h2⟩
  · exact .inr ⟨es, c, hw.trans h1, h2⟩
theorem Holds.lt {w : World} {g : Nat} {cs : Array Value} {e n : Nat} (h : Holds w g cs e n) : g < w.heap.size := by
  rcases h with ⟨f, _, h2⟩ | ⟨es, c, h2, _⟩
  · exact (Array.getElem?_eq_some_iff.1 h2).1
  · exact (Array.getElem?_eq_some_iff.1 h2).1
theorem Holds.inCells {w : World} {g : Nat} {cs : Array Value} {e n : Nat} (h : Holds w g cs e n) {sh : TypeId × Nat} (hs : w.shape? g = some sh) : ∃ f : Nat × Nat, (f = (0, 0) ∨ f = (cs.size, cs.size + 1)) ∧ w.heap[g]? = some (.cells cs e f) := by
  rcases h with h | ⟨es, c, h2, _⟩
  · exact h
  · simp [World.shape?, h2] at hs
theorem Holds.inMap {w : World} {g : Nat} {cs : Array Value} {e n : Nat} (h : Holds w g cs e n) (hs : w.shape? g = none) : ∃ es clock, w.heap[g]? = some (.map es clock) ∧ MapOk e es clock cs ∧ n = cs.size := by
  rcases h with ⟨f, _, h2⟩ | h
  · simp [World.shape?, h2] at hs
  · exact h
theorem Holds.shape {w : World} {g : Nat} {cs : Array Value} {e n : Nat} (h : Holds w g cs e n) {sh : TypeId × Nat} (hs : w.shape? g = some sh) : w.shape? g = some (e, cs.size) := by
  obtain ⟨f, _, h2⟩ := h.inCells hs
  unfold World.shape?; rw [h2]
theorem Holds.cell {w : World} {g : Nat} {cs : Array Value} {e n : Nat} (h : Holds w g cs e n) {sh : TypeId × Nat} (hs : w.shape? g = some sh) (j : Nat) : w.cell? ⟨g, j, none⟩ = cs[j]? := by
  obtain ⟨f, _, h2⟩ := h.inCells hs
  simp [World.cell?, h2]
theorem fz_free {n : Nat} {f : Nat × Nat} (h : f = (0, 0) ∨ f = (n, n + 1)) {k : Nat} (hk : k < n) : (decide (f.1 ≤ k) && decide (k < f.2)) = false := by
  rcases h with rfl | rfl
  · simp
  · simp; omega

structure HR (A : Nat → Prop) (M : List (Option Nat)) (h : Hp) (w : World) : Prop where
  len : M.length = h.length
  alt : ∀ g, A g → g < w.heap.size
  blk : ∀ (b : Nat) (B : Blk), h[b]? = some (some B) → (∀ c ∈ B.cells, c.one = true) ∧ ((M[b]? = some none ∧ B.cells = []) ∨
    ∃ (g : Nat) (cs : Array Value), M[b]? = some (some g) ∧ ¬ A g ∧ Holds w g cs B.e B.cells.length ∧ B.cells.length ≤ cs.size ∧
      VCells (Xs A M h) M w B.cells (cs.toList.take B.cells.length))
  inj : ∀ (b b' : Nat) (B B' : Blk) (g : Nat), h[b]? = some (some B) → h[b']? = some (some B') → M[b]? = some (some g) → M[b']? = some (some g) → b = b'
  glob : Globs (Xs A M h) w
theorem Globs.grow {A : Nat → Prop} {M M' : List (Option Nat)} {h h' : Hp} {w w' : World} (hE : Ext (Live M h) w w') (hl : ∀ g, g < w.heap.size → Live M' h' g → Live M h g) (k : Globs (Xs A M h) w) : Globs (Xs A M' h') w' :=
  k.ext hE (fun _ _ hl => .inr hl) (fun g hg hx => hx.elim .inl (fun h' => .inr (hl g hg h')))

theorem HR.lt {A : Nat → Prop} {M : List (Option Nat)} {h : Hp} {w : World} (H : HR A M h w) {g : Nat} (hl : Xs A M h g) : g < w.heap.size := by
  rcases hl with ha | ⟨b, B, hb, hm⟩
  · exact H.alt g ha
  · obtain ⟨_, ⟨hg, _⟩ | ⟨g', cs, hg, _, hh, _⟩⟩ := H.blk b B hb
    · rw [hm] at hg; cases hg
    rw [hm] at hg
    injection hg with hg
    injection hg with hg
    subst hg
    exact hh.lt

/-- The step's outcome: from (M, h, w) to (M', h', w'). -/
structure Grow (A : Nat → Prop) (M : List (Option Nat)) (h : Hp) (w : World) (M' : List (Option Nat)) (h' : Hp) (w' : World) : Prop where
  pre : M <+: M'
  hr : HR A M' h' w'
  ext : Ext (Live M h) w w'
  live : ∀ g, g < w.heap.size → Live M' h' g → Live M h g

theorem Grow.keep {A : Nat → Prop} {M M' : List (Option Nat)} {h h' : Hp} {w w' : World} (G : Grow A M h w M' h' w') {x : V} {v : Value} (hx : VR (Xs A M h) M w x v) :
    VR (Xs A M' h') M' w' x v :=
  VR.ext G.ext G.pre (fun _ _ hl => .inr hl) (fun g hg hx => hx.elim .inl (fun hl => .inr (G.live g hg hl))) x v hx
theorem Grow.refl {A : Nat → Prop} {M : List (Option Nat)} {h : Hp} {w : World} (H : HR A M h w) : Grow A M h w M h w :=
  ⟨List.prefix_refl _, H, Ext.refl _ _, fun _ _ h => h⟩
theorem Grow.trans {A : Nat → Prop} {M M' M'' : List (Option Nat)} {h h' h'' : Hp} {w w' w'' : World} (G : Grow A M h w M' h' w') (K : Grow A M' h' w' M'' h'' w'') : Grow A M h w M'' h'' w'' := by
  refine ⟨G.pre.trans K.pre, K.hr, ?_, fun g hg hl => G.live g hg (K.live g (Nat.lt_of_lt_of_le hg G.ext.size) hl)⟩
  refine ⟨K.ext.os.trans G.ext.os, K.ext.tape.trans G.ext.tape, K.ext.output.trans G.ext.output, Nat.le_trans G.ext.size K.ext.size, fun g hg hn => ?_, fun g sh e => K.ext.shape g sh (G.ext.shape g sh e), fun g hg e => K.ext.nshape g (Nat.lt_of_lt_of_le hg G.ext.size) (G.ext.nshape g hg e)⟩
  exact (K.ext.block g (Nat.lt_of_lt_of_le hg G.ext.size) (fun hl => hn (G.live g hg hl))).trans (G.ext.block g hg hn)

/-! ### Pure computations of the model -/
def evalPure {α : Type} (P : Program) : Sem α → Option α
  | .pure a => some a
  | .program k => evalPure P (k P)
  | .mark _ k => evalPure P k
  | _ => none
theorem evalPure_run {α : Type} {P : Program} (s : Sem α) : ∀ {a : α}, evalPure P s = some a → ∀ w, s.run P w = .ok a w := by
  induction s with
  | pure a => intro b h w; simp only [evalPure, Option.some.injEq] at h; subst h; rfl
  | program k ih => intro b h w; exact ih P h w
  | mark m k ih => intro b h w; exact ih h w
  | _ => intro b h; simp [evalPure] at h

def ofCell : Value → V
  | .slice none 0 0 => .row (some true) 1 []
  | v => .sc v
def ofValue : Value → V
  | .agg cs => .agg (cs.toList.map ofCell)
  | v => ofCell v

section
variable {X : Nat → Prop} {M : List (Option Nat)} {w : World}
theorem VR_ofCell (v : Value) : VR X M w (ofCell v) v := by
  unfold ofCell
  split
  · unfold VR; exact ⟨none, 0, rfl, Nat.le_refl _, fun _ => rfl, (fun b h => by injection h with h), by simp, fun h => absurd rfl h⟩
  · unfold VR; rfl
theorem VCells_ofCell (vs : List Value) : VCells X M w (vs.map ofCell) vs := by
  induction vs with
  | nil => unfold VCells; rfl
  | cons v vs ih => simp only [List.map_cons]; unfold VCells; exact ⟨v, vs, rfl, VR_ofCell v, ih⟩
theorem VR_ofValue (v : Value) : VR X M w (ofValue v) v := by
  unfold ofValue
  split
  · rename_i cs; unfold VR; exact ⟨cs.toList, by simp, VCells_ofCell _⟩
  · exact VR_ofCell v

theorem VCells.len : ∀ {cs : List V} {vs : List Value}, VCells X M w cs vs → cs.length = vs.length
  | [], vs, h => by unfold VCells at h; subst h; rfl
  | c :: cs, vs, h => by
    unfold VCells at h
    obtain ⟨v, rest, rfl, _, h2⟩ := h
    simp [VCells.len h2]
theorem VCells.get : ∀ {cs : List V} {vs : List Value}, VCells X M w cs vs → ∀ {i : Nat} {c : V}, cs[i]? = some c → ∃ v, vs[i]? = some v ∧ VR X M w c v
  | [], vs, h, i, c, hc => by simp at hc
  | c :: cs, vs, h, i, d, hc => by
    unfold VCells at h
    obtain ⟨v, rest, rfl, h1, h2⟩ := h
    cases i with
    | zero => simp at hc; subst hc; exact ⟨v, rfl, h1⟩
    | succ i => simp at hc; obtain ⟨u, hu, hr⟩ := VCells.get h2 hc; exact ⟨u, by simpa using hu, hr⟩
theorem VCells.mk : ∀ {cs : List V} {vs : List Value}, cs.length = vs.length → (∀ (i : Nat) (c : V) (v : Value), cs[i]? = some c → vs[i]? = some v → VR X M w c v) → VCells X M w cs vs
  | [], vs, hl, _ => by unfold VCells; exact List.eq_nil_of_length_eq_zero hl.symm
  | c :: cs, [], hl, _ => by simp at hl
  | c :: cs, v :: vs, hl, h => by
    unfold VCells
    exact ⟨v, vs, rfl, h 0 c v rfl rfl, VCells.mk (by simpa using hl) (fun i c' v' hc hv => h (i + 1) c' v' (by simpa using hc) (by simpa using hv))⟩
theorem VCells.drop {cs : List V} {vs : List Value} (h : VCells X M w cs vs) (n : Nat) : VCells X M w (cs.drop n) (vs.drop n) :=
  VCells.mk (by simp [h.len]) (fun i c v hc hv => by
    rw [List.getElem?_drop] at hc hv
    obtain ⟨u, hu, hr⟩ := h.get hc
    rw [hv] at hu; injection hu with hu; subst hu; exact hr)
theorem VCells.take {cs : List V} {vs : List Value} (h : VCells X M w cs vs) (n : Nat) : VCells X M w (cs.take n) (vs.take n) :=
  VCells.mk (by simp [h.len]) (fun i c v hc hv => by
    rw [List.getElem?_take] at hc hv
    split at hc
    · rename_i hi; simp only [hi, if_true] at hv
      obtain ⟨u, hu, hr⟩ := h.get hc
      rw [hv] at hu; injection hu with hu; subst hu; exact hr
    · cases hc)
theorem VCells.append {cs ds : List V} {vs us : List Value} (h : VCells X M w cs vs) (k : VCells X M w ds us) : VCells X M w (cs ++ ds) (vs ++ us) :=
  VCells.mk (by simp [h.len, k.len]) (fun i c v hc hv => by
    rcases Nat.lt_or_ge i cs.length with hi | hi
    · rw [List.getElem?_append_left hi] at hc
      rw [List.getElem?_append_left (by rw [← h.len]; exact hi)] at hv
      obtain ⟨u, hu, hr⟩ := h.get hc
      rw [hv] at hu; injection hu with hu; subst hu; exact hr
    · rw [List.getElem?_append_right hi] at hc
      rw [List.getElem?_append_right (by rw [← h.len]; exact hi)] at hv
      rw [← h.len] at hv
      obtain ⟨u, hu, hr⟩ := k.get hc
      rw [hv] at hu; injection hu with hu; subst hu; exact hr)
end
end Go.Vm
