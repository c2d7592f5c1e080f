/- Texts of ours, joined: VmStl, VmEq, VmAis, VmShort, VmCut, VmQ, Sh, OpenArr, OpenS, Plain1, Plain2, PlainX1, PlainX2, PlainX3, PlainX4, PlainX5, PlainH1. -/
import Derived.Test.YtagblcjgjlihaaaDoorQSpendLater2
import Derived.Scope
import Derived.OpenShut
set_option linter.unusedSimpArgs false
set_option linter.unusedVariables false
namespace Go.Vm
open Go
section
variable {α : Type} {C : α → List V} {K : Nat}
theorem mY (hC : ∀ x, (C x).length = K) : ∀ l : List α, (l.flatMap C).length = l.length * K
  | [] => by simp
  | x :: l => by simp only [List.flatMap_cons, List.length_append, hC, mY hC l, List.length_cons, Nat.add_mul, Nat.one_mul]; omega
theorem aCh (hC : ∀ x, (C x).length = K) : ∀ (l : List α) (i : Nat), (l.flatMap C).drop (i * K) = (l.drop i).flatMap C
  | l, 0 => by simp
  | [], i + 1 => by simp
  | x :: l, i + 1 => by
    rw [List.flatMap_cons, List.drop_succ_cons, ← aCh hC l i, Nat.add_mul, Nat.one_mul, List.drop_append, List.drop_eq_nil_of_le (by rw [hC]; omega), List.nil_append, hC]
    congr 1; omega
theorem aFT (hC : ∀ x, (C x).length = K) : ∀ (l : List α) (i : Nat), (l.flatMap C).take (i * K) = (l.take i).flatMap C
  | l, 0 => by simp
  | [], i + 1 => by simp
  | x :: l, i + 1 => by
    rw [List.flatMap_cons, List.take_succ_cons, List.flatMap_cons, ← aFT hC l i, Nat.add_mul, Nat.one_mul, List.take_append, List.take_of_length_le (by rw [hC]; omega), hC]
    congr 2; omega
theorem aC4 (hC : ∀ x, (C x).length = K) (l : List α) : rT true K l.length (l.flatMap C) = l.map fun x => V.agg (C x) := by
  unfold rT
  rw [if_pos rfl]
  apply List.ext_getElem
  · simp
  · intro i h1 h2
    simp only [List.length_map] at h2
    simp only [List.getElem_map, List.getElem_range]
    rw [aCh hC, List.drop_eq_getElem_cons h2, List.flatMap_cons, List.take_append, List.take_of_length_le (by rw [hC]; exact Nat.le_refl _), hC, Nat.sub_self, List.take_zero, List.append_nil]
theorem fT {p : V → Bool} (h : ∀ x, (C x).all p = true) (l : List α) : (l.flatMap C).all p = true := by
  rw [List.all_eq_true]; intro y hy
  simp only [List.mem_flatMap] at hy
  obtain ⟨x, _, hy⟩ := hy
  exact List.all_eq_true.1 (h x) y hy
theorem aHU {f : Nat → Nat} : ∀ (a b : List V), V.rns f (a ++ b) = V.rns f a ++ V.rns f b
  | [], b => by simp [V.rns]
  | x :: a, b => by simp [V.rns, aHU a b]
theorem kA {f : Nat → Nat} (h : ∀ x, V.rns f (C x) = C x) : ∀ l : List α, V.rns f (l.flatMap C) = l.flatMap C
  | [] => by simp [V.rns]
  | x :: l => by rw [List.flatMap_cons, aHU, h, kA h l]
theorem t8 {f : Nat → Nat} {vn : Nat → Bool} (h : ∀ x, V.rns f (C x) = C x) (l : List α) : V.les vn (l.flatMap C) (V.rns f (l.flatMap C)) := by rw [kA h]; exact V.les_refl _ _
theorem aHR : ∀ (a b : List V), V.rfs (a ++ b) = (V.rfs a && V.rfs b)
  | [], b => by simp [V.rfs]
  | x :: a, b => by simp [V.rfs, aHR a b, Bool.and_assoc]
theorem aHc (h : ∀ x, V.rfs (C x) = true) : ∀ l : List α, V.rfs (l.flatMap C) = true
  | [] => by simp [V.rfs]
  | x :: l => by rw [List.flatMap_cons, aHR, h, aHc h l]; rfl
theorem aKo {F : V → Option V} {a b a' b' : List V} (h1 : a.mapM F = some a') (h2 : b.mapM F = some b') : (a ++ b).mapM F = some (a' ++ b') := by
  rw [List.mapM_append, h1, h2]; rfl
theorem aFL {F : V → Option V} (h : ∀ x, (C x).mapM F = some (C x)) : ∀ l : List α, (l.flatMap C).mapM F = some (l.flatMap C)
  | [] => rfl
  | x :: l => by rw [List.flatMap_cons]; exact aKo (h x) (aFL h l)
variable {P : Program} {h h' : Hp} {t e : TypeId} {ti : TI} {b i off : Nat} {l m : List α} {y : α} {kk : IntKind} {j : Int} {nl : Option Bool} {sz by_ : Nat} {z : Value} {v : V}
theorem aA8 {hE : Hp} {q d : Nat} (hC : ∀ x, (C x).length = K) (hK : 0 < K) (hn : l.length = q) (hb : hE[b]? = some (some ⟨e, l.flatMap C⟩)) (hx : ∀ x, (C x).mapM (fC hE d) = some (C x)) : fC hE (d + 1) (.sl b 0 q K true) = some (.row none K (l.map fun x => V.agg (C x))) := by
  subst hn
  simp only [fC, hb]
  rw [if_pos ⟨by rw [mY hC]; omega, hK, .inl trivial⟩]
  simp only [List.drop_zero]
  rw [List.take_of_length_le (by rw [mY hC]; exact Nat.le_refl _), aFL hx]
  simp only [Option.map_some, aC4 hC]
theorem aDE {hE : Hp} {q : Nat} (hC : ∀ x, (C x).length = K) (hK : 0 < K) (hn : l.length = q) (hb : hE[b]? = some (some ⟨e, l.flatMap C⟩)) (hx : ∀ x, (C x).mapM (fC hE 3) = some (C x)) : tH hE (.sl b 0 q K true) = some (.row none K (l.map fun x => V.agg (C x))) := aA8 hC hK hn hb hx
theorem aIv {q : Nat} (hC : ∀ x, (C x).length = K) (hn : m.length = q) (hb : h[b]? = some (some ⟨e, m.flatMap C⟩)) : nN h K (.sl b 0 q K true) = some (m.flatMap C, m.length) := by
  subst hn
  simp only [nN, hb]
  rw [if_pos ⟨trivial, by rw [mY hC]; omega⟩, List.drop_zero, List.take_of_length_le (by rw [mY hC]; exact Nat.le_refl _)]
theorem aI5 {q : Nat} (hC : ∀ x, (C x).length = K) (hn : l.length = q) (ht : a8 P t = some ⟨.slice e, sz, by_, z⟩) (he : a8 P e = some ti) (h1 : ti.zero.cells.size = K ∧ ti.size = K ∧ 1 ≤ ti.bytes ∧ 0 < K) (hb : h[b]? = some (some ⟨e, l.flatMap C⟩)) {s : V} (hs : nN h K s = some (m.flatMap C, m.length))
    {r : List α} (ha : kY ti.bytes l m = some r) (hl : h.length = i) (hh : h.set b none ++ [some ⟨e, r.flatMap C⟩] = h') : qF P t t (.sl b 0 q K true) s h = some (.sl i 0 r.length K true, h') := by
  obtain ⟨h2, h3, h4, h5⟩ := h1
  subst hn
  unfold kY at ha
  split at ha
  · rename_i hlim
    injection ha with ha
    subst ha hl hh
    have hx : nN h ti.size s = some (m.flatMap C, m.length) := by rw [h3]; exact hs
    simp only [qF, ne_eq, not_true, if_false, ht, he]
    rw [if_pos ⟨by rw [h2, h3], by omega, h4⟩]
    simp only [hx, hb]
    rw [if_pos ⟨h3.symm, trivial, by rw [mY hC]; exact Nat.le_refl _, hlim⟩, List.take_of_length_le (by rw [mY hC]; exact Nat.le_refl _)]
    simp
  · cases ha
theorem aE1 {q : Nat} (hn : l.length = q) (ht : a8 P t = some ⟨.slice e, sz, by_, z⟩) (he : a8 P e = some ti) (h1 : ti.size = K) (hx : dB l j = some y) : iI P t (.sl b 0 q K true) (.sc (.int kk j)) = some (.ptr b (0 + j.toNat * K)) := by
  obtain ⟨h2, h3, _⟩ := jK hx
  subst hn
  simp [iI, ht, q7, he, h1, h2, h3]
theorem aJv {cs r : List V} (h : fX P t cs = some v) : fX P t (cs ++ r) = some v := by
  unfold fX at *
  split at h
  · cases h
  · split at h
    · rename_i hag
      split at h
      · rename_i hs
        rw [if_pos hag, if_pos (by rw [List.length_append]; omega), List.take_append_of_le_length hs]; exact h
      · cases h
    · rename_i hag
      rw [if_neg hag]
      cases cs with
      | nil => cases h
      | cons c cs => exact h
theorem aK0 (hC : ∀ x, (C x).length = K) {i : Nat} (hi : l[i]? = some y) (ho : off ≤ K) : (l.flatMap C).drop (0 + i * K + off) = (C y).drop off ++ (l.drop (i + 1)).flatMap C := by
  obtain ⟨h1, h2⟩ := List.getElem?_eq_some_iff.1 hi
  rw [Nat.zero_add, ← List.drop_drop, aCh hC, List.drop_eq_getElem_cons h1, h2, List.flatMap_cons, List.drop_append_of_le_length (by rw [hC]; exact ho)]
theorem aJT (hC : ∀ x, (C x).length = K) (hb : h[b]? = some (some ⟨e, l.flatMap C⟩)) (hx : dB l j = some y) (ho : off ≤ K) (hp : fX P t ((C y).drop off) = some v) : fY P t h (.ptr b (0 + j.toNat * K + off)) = some v := by
  obtain ⟨_, _, h3⟩ := jK hx
  simp only [fY, hb]
  rw [aK0 hC h3 ho]
  exact aJv hp
theorem aKU (hC : ∀ x, (C x).length = K) (hb : h[b]? = some (some ⟨e, l.flatMap C⟩)) (hx : dB l j = some y) (hp : fX P t (C y) = some v) : fY P t h (.ptr b (0 + j.toNat * K)) = some v := aJT (off := 0) hC hb hx (Nat.zero_le _) (by simpa using hp)
theorem aHC (hC : ∀ x, (C x).length = K) {i : Nat} (hi : l[i]? = some y) {x : V} {y' : α} (ho : off + x.cells.length ≤ K) (hy : splice (C y) off x.cells = C y') : splice (l.flatMap C) (0 + i * K + off) x.cells = (l.set i y').flatMap C := by
  obtain ⟨h1, h2⟩ := List.getElem?_eq_some_iff.1 hi
  have hl : l = l.take i ++ y :: l.drop (i + 1) := by rw [← h2, ← List.drop_eq_getElem_cons h1, List.take_append_drop]
  have hset : l.set i y' = l.take i ++ y' :: l.drop (i + 1) := by
    rw [List.set_eq_take_append_cons_drop, if_pos h1]
  have hti : (l.take i).length = i := by rw [List.length_take]; omega
  rw [hset, List.flatMap_append, List.flatMap_cons, ← hy]
  conv => lhs; rw [hl, List.flatMap_append, List.flatMap_cons]
  have hA : ((l.take i).flatMap C).length = i * K := by rw [mY hC, hti]
  unfold splice
  rw [Nat.zero_add, List.take_append, List.take_of_length_le (by rw [hA]; omega), hA, show i * K + off - i * K = off by omega, List.take_append_of_le_length (by rw [hC]; omega)]
  rw [show i * K + off + x.cells.length = i * K + (off + x.cells.length) by omega, List.drop_append, List.drop_eq_nil_of_le (by rw [hA]; omega), hA, show i * K + (off + x.cells.length) - i * K = off + x.cells.length by omega, List.nil_append, List.drop_append_of_le_length (by rw [hC]; omega)]
  simp [List.append_assoc]
theorem aLP (hC : ∀ x, (C x).length = K) (ht : a8 P t = some ti) (hb : h[b]? = some (some ⟨e, l.flatMap C⟩)) (hx : dB l j = some y) {x : V} {y' : α} (hf : x.flatOk = true) (hs : x.cells.length = ti.size) (ho : off + ti.size ≤ K) (hy : splice (C y) off x.cells = C y') (hh : h.set b (some ⟨e, (l.set j.toNat y').flatMap C⟩) = h') : qC P t h (.ptr b (0 + j.toNat * K + off)) x = some h' := by
  obtain ⟨_, _, h3⟩ := jK hx
  have h4 := (List.getElem?_eq_some_iff.1 h3).1
  subst hh
  simp only [qC, ht, hb]
  have hle : (j.toNat + 1) * K ≤ l.length * K := Nat.mul_le_mul_right K h4
  rw [if_pos ⟨hf, hs, by rw [mY hC]; rw [Nat.add_mul, Nat.one_mul] at hle; omega⟩, aHC hC h3 (by rw [hs]; exact ho) hy]
theorem Conv.rowK (hC : ∀ x, (C x).length = K) (h1K : ∀ x, (C x).all V.one = true) (hsh : ∀ x, (C x).all V.shut = true) {h h' : Hp} (hs : Sub h h') {b n : Nat} {e : TypeId} (hb : h[b]? = some (some ⟨e, l.flatMap C⟩)) (hb' : h'[b]? = some none) (hn : n = l.length) : Conv h h' (.sl b 0 n K true) (.row none K (l.map fun x => V.agg (C x))) := by
  intro A M w v H hv
  obtain ⟨hone, hcase⟩ := H.blk b _ hb
  have hok : ∀ e ∈ l.map (fun x => V.agg (C x)), e.okElem K = true := by
    intro e he
    simp only [List.mem_map] at he
    obtain ⟨x, _, rfl⟩ := he
    simp only [V.okElem, V.flatOk, V.cells, h1K x, hC x, beq_self_eq_true, Bool.and_self]
  unfold VR at hv ⊢
  rcases hv with ⟨hm, rfl, h0, _⟩ | ⟨g, cap, e', sz, hm, rfl, h1, _, h3, hshp, _⟩
  · have : l = [] := List.eq_nil_of_length_eq_zero (by omega)
    subst this
    exact ⟨none, 0, rfl, Nat.le_refl _, fun _ => rfl, (fun b hb => by cases hb), by simp, fun hne => absurd rfl hne⟩
  · rcases hcase with ⟨hm', _⟩ | ⟨g', b9, hm', hA, hw, hle, hcs⟩
    · rw [hm] at hm'; cases hm'
    · rw [hm] at hm'
      injection hm' with hm'
      injection hm' with hm'
      subst hm'
      refine ⟨some ⟨g, 0, none⟩, cap, by rw [List.length_map, hn], by rw [List.length_map]; omega, fun hh => (by cases hh), (fun b hb => by cases hb), hok, fun _ => ⟨⟨g, 0, none⟩, rfl, h3, ?_, rfl, ?_⟩⟩
      · rintro (ha | ⟨c, C', hc, hmc⟩)
        · exact hA ha
        · obtain ⟨C'', hc'⟩ := hs c C' hc
          have := H.inj c b C'' _ g hc' hb hmc hm
          subst this
          rw [hb'] at hc; cases hc
      · rw [← aC4 hC l]
        unfold rT
        rw [if_pos rfl]
        dsimp only at hle hcs
        have hall := fT hsh l
        refine aAM h3 l.length (vs := b9.toList.take (l.flatMap C).length) (mY hC l) (VCells.mk hcs.len (fun i c u hc hu => ?_)) ?_
        · obtain ⟨u', hu', hr⟩ := hcs.get hc
          rw [hu] at hu'
          injection hu' with hu'
          subst hu'
          exact (hr.shut (List.all_eq_true.1 hall c (List.mem_of_getElem? hc))).avoid (fun _ _ hx => hs.xs hx)
        · intro i u hu
          have hu2 : b9[i]? = some u := by
            simp only [List.getElem?_toArray, List.getElem?_take] at hu
            split at hu
            · simpa using hu
            · cases hu
          have := hw.cell hshp i
          rw [hu2] at this
          unfold Addr.add
          split
          · rename_i h0; subst h0; exact this
          · simpa using this
theorem aFm (hC : ∀ x, (C x).length = K) (h1 : ∀ x, (C x).all V.one = true) : ∀ (xs : List α) (i : Nat) (cells : List V), cells.length = (i + xs.length) * K → oW (fun i => some (i * K, K)) cells (aAD i (xs.map fun x => V.agg (C x))) = some (cells.take (i * K) ++ xs.flatMap C)
  | [], i, cells, hl => by
    simp only [List.map_nil, aAD, oW, List.flatMap_nil, List.append_nil]
    rw [List.take_of_length_le (by rw [hl]; simp)]
  | x :: xs, i, cells, hl => by
    simp only [List.length_cons] at hl
    have hl' : cells.length = i * K + K + xs.length * K := by rw [hl, Nat.add_mul, Nat.add_mul, Nat.one_mul]; omega
    simp only [List.map_cons, aAD, oW]
    rw [if_pos ⟨by simp [V.flatOk, V.cells, h1 x], by simp [V.cells, hC x], by omega⟩]
    have hsl : (splice cells (i * K) (V.agg (C x)).cells).length = cells.length := tP _ _ _ (by simp only [V.cells, hC]; omega)
    rw [aFm hC h1 xs (i + 1) _ (by rw [hsl, hl]; congr 1; omega)]
    congr 1
    rw [List.flatMap_cons, ← List.append_assoc]
    congr 1
    unfold splice
    simp only [V.cells]
    rw [Nat.add_mul, Nat.one_mul, List.append_assoc, List.take_append, List.take_of_length_le (by rw [List.length_take]; omega), List.length_take, Nat.min_eq_left (by omega), show i * K + K - i * K = K by omega, List.take_append_of_le_length (by rw [hC]; exact Nat.le_refl _), show (C x).take K = C x from List.take_of_length_le (by rw [hC]; exact Nat.le_refl _)]
theorem aBo {len : Nat} {ps : List (Nat × V)} {xs : List α} (hC : ∀ x, (C x).length = K) (h1C : ∀ x, (C x).all V.one = true) (ht : a8 P t = some ⟨.slice e, sz, by_, z⟩) (he : a8 P e = some ti) (h1 : len * K ≤ 2 ^ 24 ∧ 0 < len ∧ 0 < K) (hK : ti.size = K) (hag : c7 ti.desc = true)
    (hp : aAD 0 (xs.map fun x => V.agg (C x)) = ps) (hlen : xs.length = len) (hl : h.length = i) (hh : h ++ [some ⟨e, xs.flatMap C⟩] = h') :
    jB P t len ps h = some (.sl i 0 len K true, h') := by
  subst hK hp
  refine aLJ ht he h1 hag ?_ ⟨fT h1C xs, by rw [mY hC, hlen]⟩ hl hh
  rw [aFm hC h1C xs 0 _ (by simp [hlen])]
  simp
end
end Go.Vm
set_option linter.unusedSimpArgs false
set_option linter.unusedVariables false
namespace Go.Vm
open Go
def aB8 (P : Program) (g : TypeId → Option (List TypeDesc)) : List Field → Nat → Option (List TypeDesc)
  | [], _ => some []
  | f :: fs, off => if f.name = "_" ∨ f.offset ≠ off then none else match a8 P f.type, g f.type with
    | some d, some l => if d.size = l.length ∧ 0 < d.size then (aB8 P g fs (off + l.length)).map (l ++ ·) else none
    | _, _ => none
def tA (P : Program) : Nat → TypeId → Option (List TypeDesc)
  | 0, _ => none
  | d + 1, t => match a8 P t with
    | some ⟨.int k, sz, _, _⟩ => if sz = 1 then some [.int k] else none
    | some ⟨.bool, sz, _, _⟩ => if sz = 1 then some [.bool] else none
    | some ⟨.string, sz, _, _⟩ => if sz = 1 then some [.string] else none
    | some ⟨.array n e, sz, _, _⟩ => match a8 P e, tA P d e with
      | some de, some l => if de.size = l.length ∧ sz = n * l.length then some (List.replicate n l).flatten else none
      | _, _ => none
    | some ⟨.struct fs, sz, _, _⟩ => if P.stoodInHeld t = true then none else match aB8 P (tA P d) fs.toList 0 with
      | some l => if sz = l.length then some l else none
      | none => none
    | _ => none
def mkT (ti : TI) (vs : List Value) : Value := if c7 ti.desc then .agg vs.toArray else vs.headD default
def fI : List TypeDesc → List Value → Bool
  | [], [] => true
  | .int k :: ds, .int k' _ :: vs => decide (k = k') && fI ds vs
  | .bool :: ds, .bool _ :: vs => fI ds vs
  | .string :: ds, .string _ :: vs => fI ds vs
  | _, _ => false
def aDR : Value → Value → Bool
  | .int _ a, .int _ b => a == b
  | .bool a, .bool b => a == b
  | .string a, .string b => a == b
  | _, _ => false
def gJ : List Value → List Value → Bool
  | [], [] => true
  | x :: xs, y :: ys => aDR x y && gJ xs ys
  | _, _ => false
theorem aBr : ∀ {a c b d : List Value}, a.length = c.length → gJ (a ++ b) (c ++ d) = (gJ a c && gJ b d)
  | [], [], _, _, _ => by simp [gJ]
  | x :: a, y :: c, b, d, h => by
    simp only [List.cons_append, gJ]
    rw [aBr (by simpa using h), Bool.and_assoc]
  | [], _ :: _, _, _, h => by simp at h
  | _ :: _, [], _, _, h => by simp at h
theorem kG : ∀ {ds : List TypeDesc} {vs : List Value}, fI ds vs = true → vs.length = ds.length
  | [], [], _ => rfl
  | [], _ :: _, h => by simp [fI] at h
  | d :: ds, [], h => by cases d <;> simp [fI] at h
  | d :: ds, v :: vs, h => by
    have : fI ds vs = true := by
      cases d <;> cases v <;> simp only [fI, Bool.false_eq_true, Bool.and_eq_true] at h <;> first | exact h | exact h.2
    simp [kG this]
theorem pL : ∀ {l m : List TypeDesc} {vs : List Value}, fI (l ++ m) vs = true → fI l (vs.take l.length) = true ∧ fI m (vs.drop l.length) = true
  | [], m, vs, h => by simpa [fI] using h
  | d :: l, m, [], h => by cases d <;> simp [fI] at h
  | d :: l, m, v :: vs, h => by
    cases d <;> cases v <;> simp only [List.cons_append, fI, Bool.false_eq_true, Bool.and_eq_true] at h <;> simp only [List.length_cons, List.take_succ_cons, List.drop_succ_cons, fI, Bool.and_eq_true]
    · exact pL h
    · exact ⟨⟨h.1, (pL h.2).1⟩, (pL h.2).2⟩
    · exact pL h
section
variable {P : Program}
theorem o6 {t : TypeId} {ti : TI} (ht : a8 P t = some ti) {vs : List Value} {off : Nat} (h1 : c7 ti.desc = true ∨ ti.size = 1) (hl : off + ti.size ≤ vs.length) : bB P (part t vs.toArray off) = some (mkT ti ((vs.drop off).take ti.size)) := by
  have hu := cZ ht
  cases hag : c7 ti.desc with
  | false =>
    have hs := h1.resolve_left (by rw [hag]; simp)
    have hlt : off < vs.length := by omega
    have := xY (P := P) ht hag (cs := vs.toArray) (off := off) (v := vs[off]) (by simp [hlt])
    rw [this]
    simp only [mkT, hag, Bool.false_eq_true, if_false, hs]
    rw [List.drop_eq_getElem_cons hlt]; rfl
  | true =>
    unfold part
    have h1 : bB P (isAgg t) = some true := by
      unfold isAgg
      rw [bL _ _ hu]
      cases hh : ti.desc <;> first | rfl | (rw [hh] at hag; simp [c7] at hag)
    rw [bL _ _ h1]
    simp only [if_true]
    rw [bL _ _ (q4 ht)]
    simp only [mkT, hag, if_true, List.extract_toArray, List.extract_eq_drop_take']
    show some _ = _
    congr 2
    simp [List.take_drop]
theorem aKh {α : Type} {p : α → Bool} {body : α → Option Bool × Unit → Sem (ForInStep (Option Bool × Unit))} {k : Option Bool × Unit → Sem Bool} (h1 : ∀ r u, k (some r, u) = pure r) (h2 : ∀ u, k (none, u) = pure true) : ∀ (l : List α), (∀ a ∈ l, ∀ s, bB P (body a s) = some (if p a = true then .yield (none, ()) else .done (some false, ()))) →
    bB P (forIn l ((none, ()) : Option Bool × Unit) body >>= k) = some (l.all p)
  | [], _ => by
    simp only [List.forIn_nil, pure_bind, h2]
    rfl
  | a :: l, h => by
    simp only [List.forIn_cons, bind_assoc]
    rw [bL _ _ (h a (by simp) _)]
    cases hp : p a with
    | true =>
      simp only [if_true, List.all_cons, hp, Bool.true_and]
      exact aKh h1 h2 l (fun b hb => h b (by simp [hb]))
    | false =>
      simp only [Bool.false_eq_true, if_false, List.all_cons, hp, Bool.false_and, pure_bind, h1]
      rfl
theorem aKE {α : Type} {body : α → PUnit → Sem (ForInStep PUnit)} : ∀ (l : List α), (∀ a ∈ l, ∀ s, bB P (body a s) = some (.yield PUnit.unit)) →
    bB P (do
      forIn l PUnit.unit body
      pure ()) = some ()
  | [], _ => by simp only [List.forIn_nil]; rfl
  | a :: l, h => by
    simp only [List.forIn_cons, bind_assoc]
    rw [bL _ _ (h a (by simp) _)]
    exact aKE l (fun b hb => h b (by simp [hb]))
theorem aBU {m : Nat} {xs ys : List Value} : ∀ (c i : Nat), xs.length = (i + c) * m → ys.length = (i + c) * m → gJ (xs.drop (i * m)) (ys.drop (i * m)) = (List.range' i c).all fun i => gJ ((xs.drop (i * m)).take m) ((ys.drop (i * m)).take m)
  | 0, i, hx, hy => by
    rw [List.drop_eq_nil_of_le (by rw [hx]; simp), List.drop_eq_nil_of_le (by rw [hy]; simp)]
    simp [gJ]
  | c + 1, i, hx, hy => by
    have ih := aBU (m := m) (xs := xs) (ys := ys) c (i + 1) (by rw [hx]; congr 1; omega) (by rw [hy]; congr 1; omega)
    simp only [List.range'_succ, List.all_cons]
    rw [← ih]
    have e : (i + 1) * m = i * m + m := by rw [Nat.add_mul, Nat.one_mul]
    have hm : m ≤ (c + 1) * m := Nat.le_mul_of_pos_left m (by omega)
    have h2 : (i + (c + 1)) * m = i * m + (c + 1) * m := Nat.add_mul _ _ _
    rw [e, ← List.drop_drop, ← List.drop_drop, ← aBr (by simp only [List.length_take, List.length_drop, hx, hy]), List.take_append_drop, List.take_append_drop]
theorem aDl {l : List TypeDesc} : ∀ (c : Nat) {xs : List Value}, fI (List.replicate c l).flatten xs = true → ∀ i, i < c → fI l ((xs.drop (i * l.length)).take l.length) = true
  | 0, _, _, i, hi => by omega
  | c + 1, xs, h, i, hi => by
    simp only [List.replicate_succ, List.flatten_cons] at h
    obtain ⟨h1, h2⟩ := pL h
    cases i with
    | zero => simpa using h1
    | succ i =>
      have := aDl c h2 i (by omega)
      rw [List.drop_drop] at this
      rw [Nat.add_mul, Nat.one_mul, Nat.add_comm]
      exact this
def aFd (P : Program) (xs ys : List Value) (f : Field) : Bool := match a8 P f.type with
  | some d => gJ ((xs.drop f.offset).take d.size) ((ys.drop f.offset).take d.size)
  | none => false
theorem aBj {g : TypeId → Option (List TypeDesc)} {xs ys : List Value} : ∀ (fs : List Field) (off : Nat) {l : List TypeDesc}, aB8 P g fs off = some l → fI l (xs.drop off) = true → fI l (ys.drop off) = true →
    fs.all (aFd P xs ys) = gJ (xs.drop off) (ys.drop off) ∧ ∀ f ∈ fs, f.name ≠ "_" ∧ ∃ df lf, a8 P f.type = some df ∧ g f.type = some lf ∧ df.size = lf.length ∧ f.offset + df.size ≤ xs.length ∧ f.offset + df.size ≤ ys.length ∧
      fI lf ((xs.drop f.offset).take df.size) = true ∧ fI lf ((ys.drop f.offset).take df.size) = true
  | [], off, l, h, hx, hy => by
    simp only [aB8, Option.some.injEq] at h
    subst h
    have e1 := kG hx
    have e2 := kG hy
    rw [List.eq_nil_of_length_eq_zero e1, List.eq_nil_of_length_eq_zero e2]
    simp [gJ]
  | f :: fs, off, l, h, hx, hy => by
    simp only [aB8] at h
    split at h
    · cases h
    · rename_i hno
      have hname : f.name ≠ "_" := fun e => hno (.inl e)
      have hoff : f.offset = off := Classical.byContradiction fun e => hno (.inr e)
      split at h
      · rename_i df lf hd hg
        split at h
        · rename_i hsz
          obtain ⟨hsz, h0⟩ := hsz
          simp only [Option.map_eq_some_iff] at h
          obtain ⟨l', hl', rfl⟩ := h
          obtain ⟨x1, x2⟩ := pL hx
          obtain ⟨y1, y2⟩ := pL hy
          rw [List.drop_drop] at x2 y2
          obtain ⟨i1, i2⟩ := aBj fs (off + lf.length) hl' x2 y2
          have lx := kG hx
          have ly := kG hy
          simp only [List.length_drop, List.length_append] at lx ly
          have hxl : off ≤ xs.length ∨ lf.length + l'.length = 0 := by omega
          have x1l := kG x1
          have y1l := kG y1
          simp only [List.length_take, List.length_drop] at x1l y1l
          refine ⟨?_, ?_⟩
          · simp only [List.all_cons, i1, aFd, hd, hoff, hsz]
            rw [← List.drop_drop, ← List.drop_drop, ← aBr (by simp only [List.length_take, List.length_drop]; omega), List.take_append_drop, List.take_append_drop]
          · intro f' hf'
            rcases List.mem_cons.1 hf' with rfl | hf'
            · exact ⟨hname, df, lf, hd, hg, hsz, by omega, by omega, by rw [hoff, hsz]; exact x1, by rw [hoff, hsz]; exact y1⟩
            · exact i2 f' hf'
        · cases h
      · cases h
theorem u3 : ∀ (d : Nat) {t : TypeId} {L : List TypeDesc} {ti : TI}, a8 P t = some ti → tA P d t = some L → (L.length = ti.size ∧ (c7 ti.desc = true ∨ ti.size = 1)) ∧
    ∀ (n : Nat) {xs : List Value}, fI L xs = true → (∀ {ys : List Value}, fI L ys = true → bB P (Op.equalIn (n + d) t (mkT ti xs) (mkT ti ys)) = some (gJ xs ys)) ∧ ∀ b, bB P (Instr.checkKey b (n + d) t (mkT ti xs)) = some ()
  | 0, t, L, ti, _, h => by simp [tA] at h
  | d + 1, t, L, ti, ht, h => by
    simp only [tA] at h
    rw [ht] at h
    split at h
    · rename_i k sz _ _ he
      injection he with he; subst he
      split at h
      · rename_i h1
        injection h with h; subst h
        refine ⟨⟨by simp [h1], .inr h1⟩, fun n xs hx => ⟨fun {ys} hy => ?_, fun b => ?_⟩⟩
        · match xs, ys, kG hx, kG hy, hx, hy with
          | [.int k1 a], [.int k2 c], _, _, hx, hy =>
            simp only [fI, Bool.and_true, decide_eq_true_eq] at hx hy
            subst hx; subst hy
            simp only [mkT, c7, Bool.false_eq_true, if_false, List.headD_cons, gJ, aDR, Bool.and_true]
            exact aFV ht _ a c
        · match xs, kG hx, hx with
          | [.int k1 a], _, hx =>
            show bB P (Instr.checkKey b (n + d + 1) t _) = _
            rw [Instr.checkKey, bL _ _ (cZ ht)]
            rfl
      · cases h
    · rename_i sz _ _ he
      injection he with he; subst he
      split at h
      · rename_i h1
        injection h with h; subst h
        refine ⟨⟨by simp [h1], .inr h1⟩, fun n xs hx => ⟨fun {ys} hy => ?_, fun b => ?_⟩⟩
        · match xs, ys, hx, hy with
          | [.bool a], [.bool c], hx, hy =>
            show bB P (Op.equalIn (n + d + 1) t _ _) = _
            rw [Op.equalIn, bL _ _ (cZ ht)]
            simp only [mkT, c7, Bool.false_eq_true, if_false, List.headD_cons, gJ, aDR, Bool.and_true]
            rfl
        · match xs, hx with
          | [.bool a], hx =>
            show bB P (Instr.checkKey b (n + d + 1) t _) = _
            rw [Instr.checkKey, bL _ _ (cZ ht)]
            rfl
      · cases h
    · rename_i sz _ _ he
      injection he with he; subst he
      split at h
      · rename_i h1
        injection h with h; subst h
        refine ⟨⟨by simp [h1], .inr h1⟩, fun n xs hx => ⟨fun {ys} hy => ?_, fun b => ?_⟩⟩
        · match xs, ys, hx, hy with
          | [.string a], [.string c], hx, hy =>
            show bB P (Op.equalIn (n + d + 1) t _ _) = _
            rw [Op.equalIn, bL _ _ (cZ ht)]
            simp only [mkT, c7, Bool.false_eq_true, if_false, List.headD_cons, gJ, aDR, Bool.and_true]
            rfl
        · match xs, hx with
          | [.string a], hx =>
            show bB P (Instr.checkKey b (n + d + 1) t _) = _
            rw [Instr.checkKey, bL _ _ (cZ ht)]
            rfl
      · cases h
    · rename_i len e sz _ _ he
      injection he with he; subst he
      split at h
      · rename_i de l hde hle
        split at h
        · rename_i hc
          obtain ⟨hc1, hc2⟩ := hc
          injection h with h; subst h
          obtain ⟨⟨_, ag⟩, ih⟩ := u3 d hde hle
          have hL : (List.replicate len l).flatten.length = len * l.length := by simp
          refine ⟨⟨by rw [hL]; exact hc2.symm, .inl rfl⟩, fun n xs hx => ?_⟩
          have lx := kG hx
          rw [hL] at lx
          have hxo := aDl len hx
          have slot : ∀ i, i < len → i * l.length + l.length ≤ len * l.length := fun i hi => by
            have := Nat.mul_le_mul_right l.length (show i + 1 ≤ len from hi)
            rw [Nat.add_mul, Nat.one_mul] at this; exact this
          have px : ∀ i, i < len → bB P (part e xs.toArray (i * l.length)) = some (mkT de ((xs.drop (i * l.length)).take l.length)) := fun i hi => by
            have := o6 (P := P) hde ag (vs := xs) (off := i * l.length) (by rw [hc1, lx]; exact slot i hi)
            rw [hc1] at this; exact this
          refine ⟨fun {ys} hy => ?_, fun b => ?_⟩
          · have ly := kG hy
            rw [hL] at ly
            have hyo := aDl len hy
            have py : ∀ i, i < len → bB P (part e ys.toArray (i * l.length)) = some (mkT de ((ys.drop (i * l.length)).take l.length)) := fun i hi => by
              have := o6 (P := P) hde ag (vs := ys) (off := i * l.length) (by rw [hc1, ly]; exact slot i hi)
              rw [hc1] at this; exact this
            show bB P (Op.equalIn (n + d + 1) t (.agg xs.toArray) (.agg ys.toArray)) = _
            rw [Op.equalIn, bL _ _ (cZ ht)]
            simp only
            rw [bL _ _ (q4 hde), hc1]
            simp only [Std.Legacy.Range.forIn_eq_forIn_range', Std.Legacy.Range.size, Nat.sub_zero, Nat.add_one_sub_one, Nat.div_one]
            have hch := aBU (m := l.length) (xs := xs) (ys := ys) len 0 (by simpa using lx) (by simpa using ly)
            simp only [Nat.zero_mul, List.drop_zero] at hch
            rw [hch]
            refine aKh (fun _ _ => rfl) (fun _ => rfl) _ fun i hi s => ?_
            have hil : i < len := by simp at hi; omega
            rw [bL _ _ (px i hil), bL _ _ (py i hil), bL _ _ ((ih n (hxo i hil)).1 (hyo i hil))]
            cases gJ ((xs.drop (i * l.length)).take l.length) ((ys.drop (i * l.length)).take l.length) <;> rfl
          · show bB P (Instr.checkKey b (n + d + 1) t (.agg xs.toArray)) = _
            rw [Instr.checkKey, bL _ _ (cZ ht)]
            simp only [Std.Legacy.Range.forIn_eq_forIn_range', Std.Legacy.Range.size, Nat.sub_zero, Nat.add_one_sub_one, Nat.div_one]
            refine aKE _ fun i hi s => ?_
            have hil : i < len := by simp at hi; omega
            rw [bL _ _ (q4 hde), hc1, bL _ _ (px i hil), bL _ _ ((ih n (hxo i hil)).2 b)]
            rfl
        · cases h
      · cases h
    · rename_i fs sz _ _ he
      injection he with he; subst he
      split at h
      · cases h
      · rename_i hst
        have hst' : P.stoodInHeld t = false := by simpa using hst
        split at h
        · rename_i l hl
          split at h
          · rename_i hsz
            injection h with h; subst h
            refine ⟨⟨hsz.symm, .inl rfl⟩, fun n xs hx => ?_⟩
            have hx0 : fI l (xs.drop 0) = true := by simpa using hx
            refine ⟨fun {ys} hy => ?_, fun b => ?_⟩
            · have hy0 : fI l (ys.drop 0) = true := by simpa using hy
              obtain ⟨a1, a2⟩ := aBj (P := P) _ 0 hl hx0 hy0
              simp only [List.drop_zero] at a1
              show bB P (Op.equalIn (n + d + 1) t (.agg xs.toArray) (.agg ys.toArray)) = _
              rw [Op.equalIn, bL _ _ (cZ ht)]
              simp only
              have hp : bB P (program) = some P := rfl
              rw [bL _ _ hp]
              simp only [hst', Bool.false_eq_true, if_false]
              rw [← a1]
              simp only [← Array.forIn_toList]
              refine aKh (fun _ _ => rfl) (fun _ => rfl) _ fun f hf s => ?_
              obtain ⟨f1, df, lf, f2, f3, f4, f5, f6, f7, f8⟩ := a2 f hf
              obtain ⟨⟨_, ag⟩, ih⟩ := u3 d f2 f3
              simp only [f1, ne_eq, not_false_eq_true, if_true]
              rw [bL _ _ (o6 f2 ag f5), bL _ _ (o6 f2 ag f6), bL _ _ ((ih n f7).1 f8)]
              simp only [aFd, f2]
              cases gJ ((xs.drop f.offset).take df.size) ((ys.drop f.offset).take df.size) <;> rfl
            · obtain ⟨_, a2⟩ := aBj (P := P) _ 0 hl hx0 hx0
              show bB P (Instr.checkKey b (n + d + 1) t (.agg xs.toArray)) = _
              rw [Instr.checkKey, bL _ _ (cZ ht)]
              simp only
              simp only [← Array.forIn_toList]
              refine aKE _ fun f hf s => ?_
              obtain ⟨f1, df, lf, f2, f3, f4, f5, f6, f7, f8⟩ := a2 f hf
              obtain ⟨⟨_, ag⟩, ih⟩ := u3 d f2 f3
              simp only [f1, ne_eq, not_false_eq_true, if_true]
              rw [bL _ _ (o6 f2 ag f5), bL _ _ ((ih n f7).2 b)]
              rfl
          · cases h
        · cases h
    · cases h
end
end Go.Vm
set_option linter.unusedSimpArgs false
set_option linter.unusedVariables false
namespace Go.Vm
open Go
instance : Inhabited MT := ⟨⟨0, 0, ⟨.bool, 0, 0, default⟩, ⟨.bool, 0, 0, default⟩⟩⟩
section
variable {P : Program} {t : TypeId} {L : List TypeDesc} {ti : TI} {xo yo : Operand} {d : Nat}
theorem aD1 (hg : P.eqGuardType P.depth t = false) {bo : BinOp} (hbo : bo = .eql ∨ bo = .neq) (a b : Array Value) : bB P (eqGuard bo t xo yo (.agg a) (.agg b)) = some () := by
  unfold eqGuard
  rcases hbo with rfl | rfl <;>
  · show bB P (if (!P.eqGuardType P.depth t) = true then pure () else _) = some ()
    rw [hg]; rfl
theorem aB4 (ht : a8 P t = some ti) (hag : c7 ti.desc = true) (hf : tA P d t = some L) (hd : d ≤ 10000) {xs ys : List Value} (ox : fI L xs = true) (oy : fI L ys = true) : bB P (Op.equal t (.agg xs.toArray) (.agg ys.toArray)) = some (gJ xs ys) := by
  have := ((u3 d ht hf).2 (10000 - d) ox).1 oy
  simp only [mkT, hag, if_true] at this
  rw [Nat.sub_add_cancel hd] at this
  exact this
theorem aKa (ht : a8 P t = some ti) (hag : c7 ti.desc = true) (hf : tA P d t = some L) (hd : d ≤ 10000) (hg : P.eqGuardType P.depth t = false) {cs ds : List V} {xs ys : List Value} {r : Bool} (hx : cs.mapM eD = some xs) (hy : ds.mapM eD = some ys) (ox : fI L xs = true) (oy : fI L ys = true) (hr : gJ xs ys = r) :
    eV P .eql t xo yo (.agg cs) (.agg ds) = some (.sc (.bool r)) := by
  simp only [eV, eU, hx, hy, Option.map_some, pureV]
  rw [bL _ _ (aD1 hg (.inl rfl) _ _)]
  have : bB P (binOp .eql t (.agg xs.toArray) (.agg ys.toArray)) = some (.bool (gJ xs ys)) := uH _ _ (aB4 ht hag hf hd ox oy)
  rw [this, hr]; rfl
theorem aG7 (ht : a8 P t = some ti) (hag : c7 ti.desc = true) (hf : tA P d t = some L) (hd : d ≤ 10000) (hg : P.eqGuardType P.depth t = false) {cs ds : List V} {xs ys : List Value} {r : Bool} (hx : cs.mapM eD = some xs) (hy : ds.mapM eD = some ys) (ox : fI L xs = true) (oy : fI L ys = true) (hr : gJ xs ys = r) :
    eV P .neq t xo yo (.agg cs) (.agg ds) = some (.sc (.bool (!r))) := by
  simp only [eV, eU, hx, hy, Option.map_some, pureV]
  rw [bL _ _ (aD1 hg (.inr rfl) _ _)]
  have : bB P (binOp .neq t (.agg xs.toArray) (.agg ys.toArray)) = some (.bool (!(gJ xs ys))) := uH _ (fun b => Value.bool !b) (aB4 ht hag hf hd ox oy)
  rw [this, hr]; rfl
end
structure aAx (P : Program) (kt : TypeId) {α : Type} (VK : α → Value) (eq : α → α → Bool) : Prop where
  equal : ∀ a b, bB P (Op.equal kt (VK a) (VK b)) = some (eq a b)
  check : ∀ e a, bB P (Instr.checkKey e 10000 kt (VK a)) = some ()
  stays : ∀ a b, eq a b = true → Instr.sameBits 10000 (VK b) (VK a) = true
theorem aMt {a b : ByteArray} (h : (a == b) = true) : a = b := by
  obtain ⟨a⟩ := a
  obtain ⟨b⟩ := b
  have h' : (a == b) = true := h
  rw [eq_of_beq h']
theorem aHT : ∀ (n : Nat) {L : List TypeDesc} {xs ys : List Value}, fI L xs = true → fI L ys = true → gJ xs ys = true → (ys.zip xs).all (fun (x, y) => Instr.sameBits n x y) = true
  | n, [], [], [], _, _, _ => rfl
  | n, d :: L, x :: xs, y :: ys, hx, hy, h => by
    simp only [gJ, Bool.and_eq_true] at h
    have key : fI L xs = true ∧ fI L ys = true ∧ Instr.sameBits n y x = true := by
      cases d <;> cases x <;> simp only [fI, Bool.false_eq_true, Bool.and_eq_true, decide_eq_true_eq] at hx <;> cases y <;> simp only [fI, Bool.false_eq_true, Bool.and_eq_true, decide_eq_true_eq] at hy <;> simp only [aDR, beq_iff_eq] at h
      · exact ⟨hx, hy, by cases n <;> simp [Instr.sameBits, h.1]⟩
      · refine ⟨hx.2, hy.2, ?_⟩
        have h1 := hx.1.symm.trans hy.1
        cases n <;> simp [Instr.sameBits, h.1, h1]
      · refine ⟨hx, hy, ?_⟩
        have h1 := aMt h.1
        subst h1
        cases n <;> exact h.1
    simp only [List.zip_cons_cons, List.all_cons, key.2.2, Bool.true_and]
    exact aHT n key.1 key.2.1 h.2
  | n, [], _ :: _, _, hx, _, _ => by simp [fI] at hx
  | n, [], [], _ :: _, _, hy, _ => by simp [fI] at hy
  | n, d :: L, [], _, hx, _, _ => by cases d <;> simp [fI] at hx
  | n, d :: L, _ :: _, [], _, hy, _ => by cases d <;> simp [fI] at hy
theorem aIY {P : Program} {kt : TypeId} {L : List TypeDesc} {ti : TI} {d : Nat} {α : Type} {xs : α → List Value} {eq : α → α → Bool} (ht : a8 P kt = some ti) (hag : c7 ti.desc = true) (hf : tA P d kt = some L) (hd : d ≤ 10000) (ok : ∀ a, fI L (xs a) = true) (heq : ∀ a b, gJ (xs a) (xs b) = eq a b) :
    aAx P kt (fun a => .agg (xs a).toArray) eq := by
  refine ⟨fun a b => by rw [← heq]; exact aB4 ht hag hf hd (ok a) (ok b), fun e a => ?_, fun a b h => ?_⟩
  · have := ((u3 d ht hf).2 (10000 - d) (ok a)).2 e
    simp only [mkT, hag, if_true] at this
    rw [Nat.sub_add_cancel hd] at this
    exact this
  · have h1 := aHT 9999 (ok a) (ok b) (by rw [heq]; exact h)
    have hl : (xs b).length = (xs a).length := by rw [kG (ok a), kG (ok b)]
    show Instr.sameBits (9999 + 1) _ _ = true
    simp only [Instr.sameBits, List.size_toArray, hl, beq_self_eq_true, Bool.true_and]
    exact h1
def u9 {α β : Type} (eq : α → α → Bool) (l : List (α × β)) (k : α) : Option Nat := l.findIdx? fun e => eq k e.1
def zU {α β : Type} (eq : α → α → Bool) (l : List (α × β)) (k : α) (z : β) : β := match u9 eq l k with
  | some i => ((l[i]?).map (·.2)).getD z
  | none => z
def aCo {α β : Type} (eq : α → α → Bool) (l : List (α × β)) (k : α) (v : β) : List (α × β) := match u9 eq l k with
  | some i => l.set i (k, v)
  | none => l ++ [(k, v)]
section
variable {P : Program} {kt : TypeId} {α β : Type} {VK : α → Value} {eq : α → α → Bool} {CK : α → List V} {E : β → V} {C : α × β → List V} {K : Nat} {l : List (α × β)} {k : α} {v : β}
theorem aHo (hC : ∀ e, C e = CK e.1 ++ [E e.2]) (hl : ∀ a, (CK a).length = K) (h0 : 0 < K) : ∀ l : List (α × β), z7 K 0 l.length (l.flatMap C) = l.map fun e => (V.agg (CK e.1), E e.2)
  | [] => rfl
  | e :: l => by
    have w1 : dX K = K := by unfold dX; rw [if_neg (by omega)]
    have w0 : dX 0 = 1 := rfl
    have e1 : (e :: l).flatMap C = CK e.1 ++ (E e.2 :: l.flatMap C) := by rw [List.flatMap_cons, hC]; simp
    simp only [List.length_cons, z7, e1, w1, w0]
    have d1 : (CK e.1 ++ E e.2 :: l.flatMap C).drop K = E e.2 :: l.flatMap C := List.drop_left' (hl _)
    have d2 : (CK e.1 ++ E e.2 :: l.flatMap C).drop (K + 1) = l.flatMap C := by rw [← List.drop_drop, d1]; rfl
    rw [List.take_left' (hl _), d1, d2, aHo hC hl h0 l, List.map_cons]
    have hK : K ≠ 0 := by omega
    simp [aDI, hK]
theorem aID (hC : ∀ e, C e = CK e.1 ++ [E e.2]) (hE : ∀ b, (E b).one = true) (l : List (α × β)) : yM (l.map fun e => (V.agg (CK e.1), E e.2)) = l.flatMap C := by
  have hc : ∀ b, (E b).cells = [E b] := fun b => by have := hE b; generalize E b = y at this ⊢; cases y <;> first | rfl | simp [V.one] at this
  have ha : ∀ cs : List V, (V.agg cs).cells = cs := fun _ => rfl
  simp only [yM, List.flatMap_map, ha, hc]
  exact congrArg (fun f => List.flatMap f l) (funext fun e => (hC e).symm)
theorem aFC (hC : ∀ e, C e = CK e.1 ++ [E e.2]) (hl : ∀ a, (CK a).length = K) : ∀ l : List (α × β), (l.flatMap C).length = l.length * (K + 1)
  | [] => by simp
  | e :: l => by rw [List.flatMap_cons, List.length_append, aFC hC hl l, hC]; simp [hl, Nat.add_mul]; omega
theorem aFR (hv : ∀ a, eU (.agg (CK a)) = some (VK a)) : ∀ l : List (α × β), (l.map fun e => (V.agg (CK e.1), E e.2)).mapM (fun e => eU e.1) = some (l.map fun e => VK e.1)
  | [] => rfl
  | e :: l => by simp only [List.map_cons, List.mapM_cons, hv, aFR hv l]; rfl
theorem aFw (hk : aAx P kt VK eq) (k : α) : ∀ l : List (α × β), mW P kt (VK k) (l.map fun e => VK e.1) = some (u9 eq l k)
  | [] => rfl
  | e :: l => by
    simp only [List.map_cons, mW, hk.equal, u9, List.findIdx?_cons]
    cases eq k e.1 with
    | true => rfl
    | false =>
      have := aFw hk k l
      simp only [u9] at this
      simp [this]
variable {t : TypeId} {m : MT} {h h' : Hp} {b : Nat}
theorem aEj (hC : ∀ e, C e = CK e.1 ++ [E e.2]) (hl : ∀ a, (CK a).length = K) (h0 : 0 < K) (hm : qZ P t = some m) (hK : lF m.dk = K) (hL : lF m.de = 0) (hb : h[b]? = some (some ⟨m.code, l.flatMap C⟩)) :
    uS P t h (.mp b) = some ⟨m, b, ⟨m.code, l.flatMap C⟩, l.map fun e => (V.agg (CK e.1), E e.2)⟩ := by
  have w1 : dX K = K := by unfold dX; rw [if_neg (by omega)]
  have w0 : dX 0 = 1 := rfl
  simp only [uS, hm, hb, if_true, hK, hL, w1, w0, aFC hC hl]
  rw [Nat.mul_div_cancel _ (by omega), aHo hC hl h0]
theorem aCr (hv : ∀ a, eU (.agg (CK a)) = some (VK a)) (hk : aAx P kt VK eq) : yW P kt (l.map fun e => (V.agg (CK e.1), E e.2)) (.agg (CK k)) = some (VK k, l.map (fun e => VK e.1), u9 eq l k) := by
  simp only [yW, hv, aFR hv, hk.check, aFw hk]
theorem lkM {z : β} (hC : ∀ e, C e = CK e.1 ++ [E e.2]) (hl : ∀ a, (CK a).length = K) (h0 : 0 < K) (hv : ∀ a, eU (.agg (CK a)) = some (VK a)) (hm : qZ P t = some m) (hk : aAx P m.kt VK eq) (hK : lF m.dk = K) (hL : lF m.de = 0) (hz : ofValue m.de.zero = E z) (hb : h[b]? = some (some ⟨m.code, l.flatMap C⟩)) :
    oZ P t h (.mp b) (.agg (CK k)) false = some (E (zU eq l k z)) := by
  simp only [oZ, aEj hC hl h0 hm hK hL hb, aCr hv hk, zU]
  cases hf : u9 eq l k with
  | none => simp [hz]
  | some i =>
    have hi : i < l.length := (List.findIdx?_eq_some_iff_getElem.1 hf).1
    simp [hi]
theorem upM (hC : ∀ e, C e = CK e.1 ++ [E e.2]) (hl : ∀ a, (CK a).length = K) (h0 : 0 < K) (h1 : ∀ a, (CK a).all V.one = true) (hE : ∀ b, (E b).one = true) (hv : ∀ a, eU (.agg (CK a)) = some (VK a)) (hm : qZ P t = some m) (hk : aAx P m.kt VK eq) (hK : lF m.dk = K) (hL : lF m.de = 0) (hb : h[b]? = some (some ⟨m.code, l.flatMap C⟩)) (hh : h.set b (some ⟨m.code, (aCo eq l k v).flatMap C⟩) = h') :
    aDf P t h (.mp b) (.agg (CK k)) (E v) = some h' := by
  subst hh
  have hKn : K ≠ 0 := by omega
  have s1 : aBI K (.agg (CK k)) = true := by simp [aBI, V.flatOk, V.cells, h1, hKn, hl]
  have hc : ∀ b, (E b).cells = [E b] := fun b => by have := hE b; generalize E b = y at this ⊢; cases y <;> first | rfl | simp [V.one] at this
  have s2 : aBI 0 (E v) = true := by simp [aBI, V.flatOk, hc, hE]
  simp only [aDf, aEj hC hl h0 hm hK hL hb, hK, hL, s1, s2, Bool.and_self, if_true, aCr hv hk, aCo]
  cases hf : u9 eq l k with
  | none =>
    have ha : ∀ cs : List V, (V.agg cs).cells = cs := fun _ => rfl
    simp only [List.flatMap_append, List.flatMap_cons, List.flatMap_nil, hC, ha, hc, List.append_nil]
  | some i =>
    obtain ⟨hi, hp, _⟩ := List.findIdx?_eq_some_iff_getElem.1 hf
    have hst : aDY (l.map fun e => VK e.1) i (VK k) = true := by
      simp only [aDY, List.getElem?_map, List.getElem?_eq_getElem hi, Option.map_some, Option.any_some]
      exact hk.stays _ _ hp
    simp only [hst, if_true]
    rw [← aID hC hE (l.set i (k, v)), List.map_set]
theorem aJ4 {z : β} {e : Nat} (he : m.code = e) (hC : ∀ e, C e = CK e.1 ++ [E e.2]) (hl : ∀ a, (CK a).length = K) (h0 : 0 < K) (hv : ∀ a, eU (.agg (CK a)) = some (VK a)) (hm : qZ P t = some m) (hk : aAx P m.kt VK eq) (hK : lF m.dk = K) (hL : lF m.de = 0) (hz : ofValue m.de.zero = E z) (hb : h[b]? = some (some ⟨e, l.flatMap C⟩)) :
    oZ P t h (.mp b) (.agg (CK k)) false = some (E (zU eq l k z)) := by
  subst he; exact lkM hC hl h0 hv hm hk hK hL hz hb
theorem aMR {e : Nat} (he : m.code = e) (hC : ∀ e, C e = CK e.1 ++ [E e.2]) (hl : ∀ a, (CK a).length = K) (h0 : 0 < K) (h1 : ∀ a, (CK a).all V.one = true) (hE : ∀ b, (E b).one = true) (hv : ∀ a, eU (.agg (CK a)) = some (VK a)) (hm : qZ P t = some m) (hk : aAx P m.kt VK eq) (hK : lF m.dk = K) (hL : lF m.de = 0) (hb : h[b]? = some (some ⟨e, l.flatMap C⟩)) (hh : h.set b (some ⟨e, (aCo eq l k v).flatMap C⟩) = h') :
    aDf P t h (.mp b) (.agg (CK k)) (E v) = some h' := by
  subst he; exact upM hC hl h0 h1 hE hv hm hk hK hL hb hh
def aM7 (cs : List V) : List Value := (cs.mapM eD).getD []
end
section
variable {P : Program} {O : rC} {n : Nat} {fr : List (Nat × V)} {h h' : Hp} {ty : TypeId} {pos : String} {aft : Array Edge} {v : V} {d : Option Tmp} {g : Option (Nat × Bool)} {x y z : Operand} {a b c : V} {t : TypeId}
theorem aK2 {m : MT} {i : Nat} {e : Nat} (hm : qZ P t = some m) (he : m.code = e) (hl : h.length = i) (hh : h ++ [some ⟨e, []⟩] = h') : bT P O ⟨d, .makeMap t none, ty, pos, aft, g⟩ (aV n fr) h = some (.mp i, h') := by
  subst hl hh he
  simp [bT, aBq, hm]
theorem aJZ {ok : Bool} (hx : cP n fr x = some a) (hy : cP n fr y = some b) (hv : oZ P t h a b ok = some v) : bT P O ⟨d, .lookup t x y ok, ty, pos, aft, g⟩ (aV n fr) h = some (v, h) := by simp [bT, dH hx, dH hy, hv]
theorem aMq (hx : cP n fr x = some a) (hy : cP n fr y = some b) (hz : cP n fr z = some c) (hv : aDf P t h a b c = some h') : bT P O ⟨d, .mapUpdate t x y z, ty, pos, aft, g⟩ (aV n fr) h = some (.sc undef, h') := by simp [bT, dH hx, dH hy, dH hz, hv]
end
theorem aEo {E : Int → V} {n : Nat} {l : List Int} (h : l.length = n) : (List.range n).map (fun i => E (l.getD i 0)) = l.map E := by
  apply List.ext_getElem?
  intro i
  simp only [List.getElem?_map, List.getElem?_range']
  by_cases hi : i < n
  · rw [List.getElem?_range hi, List.getElem?_eq_getElem (by omega)]
    simp [List.getD_eq_getElem?_getD, List.getElem?_eq_getElem (show i < l.length by omega)]
  · rw [List.getElem?_eq_none (by simpa using hi), List.getElem?_eq_none (by omega)]; rfl
theorem aJo {n : Nat} {a b : List Int} (ha : a.length = n) (hb : b.length = n) : (List.range n).all (fun i => a.getD i 0 == b.getD i 0) = (a == b) := by
  rw [Bool.eq_iff_iff]
  simp only [List.all_eq_true, List.mem_range, beq_iff_eq]
  constructor
  · intro h
    apply List.ext_getElem (by omega)
    intro i h1 h2
    have := h i (by omega)
    simpa [List.getD_eq_getElem?_getD, List.getElem?_eq_getElem h1, List.getElem?_eq_getElem h2] using this
  · rintro rfl i _; rfl
theorem aL2 {P : Program} {t : TypeId} {ps ps' : List (Nat × V)} {v : V} (h : ps = ps') (hb : sB P t ps' = some v) : sB P t ps = some v := by rw [h]; exact hb
def cB (E : Int → V) (l : List Int) (r : List V) : List V := E (l.getD 0 0) :: E (l.getD 1 0) :: E (l.getD 2 0) :: E (l.getD 3 0) :: r
theorem aLn {E : Int → V} {l : List Int} (h : l.length = 4) (r : List V) : cB E l r = l.map E ++ r := by
  rw [← aEo h]; rfl
theorem aFj {E : Int → V} {l : List Int} (h : l.length = 4) : cB E l [] = l.map E := by rw [aLn h]; simp
theorem to4 {P : Program} {E : Int → V} {l : List Int} {t : TypeId} {cs : List V} (h : l.length = 4) (hp : fX P t cs = some (.agg (cB E l []))) : fX P t cs = some (.agg (l.map E)) := by rw [hp, aFj h]
theorem aEN {f : Nat → Nat} {k : IntKind} {l : List Int} {r : List V} : V.rns f (cB (eI k) l r) = cB (eI k) l (V.rns f r) := rfl
def ar8 (E : Int → V) (l : List Int) (r : List V) : List V := E (l.getD 0 0) :: E (l.getD 1 0) :: E (l.getD 2 0) :: E (l.getD 3 0) :: E (l.getD 4 0) :: E (l.getD 5 0) :: E (l.getD 6 0) :: E (l.getD 7 0) :: r
theorem aEU {f : Nat → Nat} {k : IntKind} {l : List Int} {r : List V} : V.rns f (ar8 (eI k) l r) = ar8 (eI k) l (V.rns f r) := rfl
def aL3 (E : Int → V) (l : List Int) (r : List V) : List V := E (l.getD 0 0) :: E (l.getD 1 0) :: E (l.getD 2 0) :: E (l.getD 3 0) :: E (l.getD 4 0) :: E (l.getD 5 0) :: E (l.getD 6 0) :: E (l.getD 7 0) :: E (l.getD 8 0) :: E (l.getD 9 0) :: E (l.getD 10 0) :: E (l.getD 11 0) :: E (l.getD 12 0) :: E (l.getD 13 0) :: E (l.getD 14 0) :: E (l.getD 15 0) :: E (l.getD 16 0) :: E (l.getD 17 0) :: E (l.getD 18 0) :: E (l.getD 19 0) :: r
theorem aDB {f : Nat → Nat} {k : IntKind} {l : List Int} {r : List V} : V.rns f (aL3 (eI k) l r) = aL3 (eI k) l (V.rns f r) := rfl
def aX (E : Int → V) (l : List Int) (r : List V) : List V := E (l.getD 0 0) :: E (l.getD 1 0) :: E (l.getD 2 0) :: E (l.getD 3 0) :: E (l.getD 4 0) :: E (l.getD 5 0) :: E (l.getD 6 0) :: E (l.getD 7 0) :: E (l.getD 8 0) :: E (l.getD 9 0) :: E (l.getD 10 0) :: E (l.getD 11 0) :: E (l.getD 12 0) :: E (l.getD 13 0) :: E (l.getD 14 0) :: E (l.getD 15 0) :: E (l.getD 16 0) :: E (l.getD 17 0) :: E (l.getD 18 0) :: E (l.getD 19 0) :: E (l.getD 20 0) :: E (l.getD 21 0) :: E (l.getD 22 0) :: E (l.getD 23 0) :: E (l.getD 24 0) :: E (l.getD 25 0) :: E (l.getD 26 0) :: E (l.getD 27 0) :: E (l.getD 28 0) :: E (l.getD 29 0) :: E (l.getD 30 0) :: E (l.getD 31 0) :: r
theorem aGr {E : Int → V} {l : List Int} (h : l.length = 32) (r : List V) : aX E l r = l.map E ++ r := by
  rw [← aEo h]; rfl
theorem rV {E : Int → V} {l : List Int} (h : l.length = 32) : aX E l [] = l.map E := by rw [aGr h]; simp
theorem aLZ {P : Program} {E : Int → V} {l : List Int} {t : TypeId} {cs : List V} (h : l.length = 32) (hp : fX P t cs = some (.agg (aX E l []))) : fX P t cs = some (.agg (l.map E)) := by rw [hp, rV h]
theorem aDq {f : Nat → Nat} {k : IntKind} {l : List Int} {r : List V} : V.rns f (aX (eI k) l r) = aX (eI k) l (V.rns f r) := rfl
theorem r6 {vn : Nat → Bool} {E : Int → V} {l : List Int} {r r' : List V} (hr : V.les vn r r') : V.les vn (aX E l r) (aX E l r') := by
  unfold aX
  repeat (first | exact hr | refine V.les_cons (V.le_refl _ _) ?_)
theorem aKH {h h' : Hp} {E : Int → V} {l : List Int} {r r' : List V} (hE : ∀ x, Conv h h' (E x) (E x)) (hr : Convs h h' r r') : Convs h h' (aX E l r) (aX E l r') := by
  unfold aX
  repeat (first | exact hr | refine Convs.cons (hE _) ?_)
def qY (a b : List Int) (r : Bool) : Bool := ((a.getD 0 0 == b.getD 0 0) && ((a.getD 1 0 == b.getD 1 0) && ((a.getD 2 0 == b.getD 2 0) && ((a.getD 3 0 == b.getD 3 0) && ((a.getD 4 0 == b.getD 4 0) && ((a.getD 5 0 == b.getD 5 0) && ((a.getD 6 0 == b.getD 6 0) && ((a.getD 7 0 == b.getD 7 0) && ((a.getD 8 0 == b.getD 8 0) && ((a.getD 9 0 == b.getD 9 0) && ((a.getD 10 0 == b.getD 10 0) && ((a.getD 11 0 == b.getD 11 0) && ((a.getD 12 0 == b.getD 12 0) && ((a.getD 13 0 == b.getD 13 0) && ((a.getD 14 0 == b.getD 14 0) && ((a.getD 15 0 == b.getD 15 0) && ((a.getD 16 0 == b.getD 16 0) && ((a.getD 17 0 == b.getD 17 0) && ((a.getD 18 0 == b.getD 18 0) && ((a.getD 19 0 == b.getD 19 0) && ((a.getD 20 0 == b.getD 20 0) && ((a.getD 21 0 == b.getD 21 0) && ((a.getD 22 0 == b.getD 22 0) && ((a.getD 23 0 == b.getD 23 0) && ((a.getD 24 0 == b.getD 24 0) && ((a.getD 25 0 == b.getD 25 0) && ((a.getD 26 0 == b.getD 26 0) && ((a.getD 27 0 == b.getD 27 0) && ((a.getD 28 0 == b.getD 28 0) && ((a.getD 29 0 == b.getD 29 0) && ((a.getD 30 0 == b.getD 30 0) && ((a.getD 31 0 == b.getD 31 0) && r))))))))))))))))))))))))))))))))
theorem aFO {a b : List Int} (ha : a.length = 32) (hb : b.length = 32) (r : Bool) : qY a b r = ((a == b) && r) := by
  have e : qY a b r = ((List.range 32).all (fun i => a.getD i 0 == b.getD i 0) && r) := by
    simp only [qY, show List.range 32 = [0, 1, 2, 3, 4, 5, 6, 7, 8, 9, 10, 11, 12, 13, 14, 15, 16, 17, 18, 19, 20, 21, 22, 23, 24, 25, 26, 27, 28, 29, 30, 31] from rfl, List.all_cons, List.all_nil, Bool.and_assoc, Bool.true_and, Bool.and_true]
  rw [e, aJo ha hb]
def aLR (E : Int → V) (l : List Int) (r : List V) : List V := E (l.getD 0 0) :: E (l.getD 1 0) :: E (l.getD 2 0) :: E (l.getD 3 0) :: E (l.getD 4 0) :: E (l.getD 5 0) :: E (l.getD 6 0) :: E (l.getD 7 0) :: E (l.getD 8 0) :: E (l.getD 9 0) :: E (l.getD 10 0) :: E (l.getD 11 0) :: E (l.getD 12 0) :: E (l.getD 13 0) :: E (l.getD 14 0) :: E (l.getD 15 0) :: E (l.getD 16 0) :: E (l.getD 17 0) :: E (l.getD 18 0) :: E (l.getD 19 0) :: E (l.getD 20 0) :: E (l.getD 21 0) :: E (l.getD 22 0) :: E (l.getD 23 0) :: E (l.getD 24 0) :: E (l.getD 25 0) :: E (l.getD 26 0) :: E (l.getD 27 0) :: E (l.getD 28 0) :: E (l.getD 29 0) :: E (l.getD 30 0) :: E (l.getD 31 0) :: E (l.getD 32 0) :: E (l.getD 33 0) :: E (l.getD 34 0) :: E (l.getD 35 0) :: E (l.getD 36 0) :: E (l.getD 37 0) :: E (l.getD 38 0) :: E (l.getD 39 0) :: E (l.getD 40 0) :: E (l.getD 41 0) :: E (l.getD 42 0) :: E (l.getD 43 0) :: E (l.getD 44 0) :: E (l.getD 45 0) :: E (l.getD 46 0) :: E (l.getD 47 0) :: E (l.getD 48 0) :: E (l.getD 49 0) :: E (l.getD 50 0) :: E (l.getD 51 0) :: E (l.getD 52 0) :: E (l.getD 53 0) :: E (l.getD 54 0) :: E (l.getD 55 0) :: E (l.getD 56 0) :: E (l.getD 57 0) :: E (l.getD 58 0) :: E (l.getD 59 0) :: E (l.getD 60 0) :: E (l.getD 61 0) :: E (l.getD 62 0) :: E (l.getD 63 0) :: r
theorem aDn {f : Nat → Nat} {k : IntKind} {l : List Int} {r : List V} : V.rns f (aLR (eI k) l r) = aLR (eI k) l (V.rns f r) := rfl
theorem aLy {P : Program} (k : IntKind) (n : Int) : unV P .neg (.sc (.int k n)) = some (.sc (.int k (k.wrap (0 - n)))) := rfl
theorem aLe {P : Program} {k : IntKind} (hk : k.signed = false) (n : Int) : unV P .xor (.sc (.int k n)) = some (.sc (.int k (bits .xor k k.max n))) := by
  cases k <;> first | rfl | cases hk
def mkl {α : Type} (by_ : Nat) (z : α) (n c : Int) : Option (List α) := if 0 < n ∧ n ≤ c ∧ c.toNat * by_ ≤ pC then some (List.replicate n.toNat z) else none
theorem mkL {k1 k2 : IntKind} {P : Program} {h h' : Hp} {t e : TypeId} {ti : TI} {i : Nat} {α : Type} {E : α → V} {sz by_ : Nat} {z : Value} {ag : Bool} {j c : Int} {y : α} (ht : a8 P t = some ⟨.slice e, sz, by_, z⟩) (he : a8 P e = some ti) (h1 : 1 ≤ ti.bytes ∧ ti.size = 1 ∧ ti.zero.cells.size = 1) (hz : ti.zero.cells.toList.map fN = [E y]) (ho : (E y).one = true) (hag : c7 ti.desc = ag) {r : List α}
    (hm : mkl ti.bytes y j c = some r) (hl : h.length = i) (hh : h ++ [some ⟨e, r.map E⟩] = h') : vA P t (.sc (.int k1 j)) (.sc (.int k2 c)) h = some (.sl i 0 r.length 1 ag, h') := by
  obtain ⟨h2, h3, h4⟩ := h1
  unfold mkl at hm
  split at hm
  · rename_i hlim
    injection hm with hm
    subst hm hl hh hag
    simp only [vA, ht, he]
    rw [if_pos ⟨by omega, hlim.2.1, hlim.2.2, h2, by omega, by rw [h4, h3], by rw [hz]; simp [ho]⟩, hz, if_neg (by omega)]
    simp only [h3]
    have : ∀ n, (List.replicate n [E y]).flatten = (List.replicate n y).map E := fun n => by
      induction n with
      | zero => rfl
      | succ n ih => simp only [List.replicate_succ, List.flatten_cons, ih, List.map_cons]; rfl
    rw [this]; simp
  · cases hm
end Go.Vm
set_option linter.unusedSimpArgs false
set_option linter.unusedVariables false
namespace Go.Vm
open Go
theorem zl {a b : Nat} (h : Nat.ble a b = true := by rfl) : a ≤ b := Nat.le_of_ble_eq_true h
theorem zR {p : Prop} (h : p := by first | rfl | (simp only [V.rn, V.rns, xH, xL] <;> rfl)) : p := h
section
variable {P : Program} {ops : Array Oper} {l : List Oper} {n N : Nat} {fr : List (Nat × V)} {h h' : Hp} {K : List V → Hp → Prop} {op : Op} {ty : TypeId} {pos : String} {aft : Array Edge} {t : Nat} {v a b : V} {x y : Operand} {d : Option Tmp} {g : Option (Nat × Bool)} {s s' : List V} {Q : Ex → List V → Hp → Prop}
theorem zw (hd : bT P O0 ⟨some t, op, ty, pos, aft, none⟩ (aV n fr) h = some (v, h')) (k : OpsW P N ops l (aV n ((t, v) :: fr)) h' K) : OpsW P N ops (⟨some t, op, ty, pos, aft, none⟩ :: l) (aV n fr) h K := wS (sv hd) k
theorem zm (hx : cP n fr x = some a) (k : OpsW P N ops l (aV n ((t, a) :: fr)) h K) : OpsW P N ops (⟨some t, .move x, ty, pos, aft, none⟩ :: l) (aV n fr) h K := wS (sv (bI hx)) k
theorem za (hx : cP n fr x = some a) (k : OpsW P N ops l (aV n ((t, a) :: fr)) h K) : OpsW P N ops (⟨some t, .assign x, ty, pos, aft, none⟩ :: l) (aV n fr) h K := wS (sv (bE hx)) k
theorem zn {K' : List V → Hp → Prop} (hk : K' s h) : OpsW P N ops [] s h (Ex.then K' Q .normal) := OpsW.nil (Ex.then_mk hk)
theorem zq {c : Code} {id : Nat} (hr : OpsW P N l.toArray l s h (Ex.then (AB P N c Q) Q .normal)) : AB P N (.seq (.region id l.toArray false) c) Q s h := AB.seq (AB.rw hr)
end
theorem zG {N n : Nat} {fr fr' : List (Nat × V)} {h h' : Hp} (σ : List Nat)
    (hf : FLe yB (V.rn (sg σ h.length)) fr fr' := by repeat (first | exact FLe.nil | refine FLe.same rfl ?_ | refine FLe.le rfl V.le_nil ?_ | refine FLe.le rfl V.le_row ?_ | refine FLe.le rfl (V.le_arr (fun _ => rfl)) ?_))
    (hh : HLe (sg σ h.length) h σ h' := by repeat (first | exact HLe.nil | refine HLe.dead ?_ | refine HLe.live rfl V.les_nil rfl ?_ | refine HLe.live rfl (mC (fun _ => rfl) _) (all_map (fun _ => rfl) _) ?_ | refine HLe.live rfl (t8 (fun _ => rfl) _) (fT (fun _ => rfl) _) ?_ | refine HLe.live rfl (V.les_refl _ _) rfl ?_))
    (hσ : σ.take N = List.range N := by rfl) (hlt : σ.all (fun b => Nat.blt b h.length) = true := by rfl) (hnd : ndB (lvs σ h') = true := by rfl) : Ghost N (aV n fr) h (aV n fr') h' := Ghost.rn σ hσ hlt hf hh hnd
theorem Ghost.blk {N : Nat} {s : List V} {h : Hp} {b : Nat} {e : TypeId} {cs cs' : List V} (hb : h[b]? = some (some ⟨e, cs⟩)) (hl : V.les yB cs cs') (ho : cs'.all V.one = true) : Ghost N s h s (h.set b (some ⟨e, cs'⟩)) := by
  intro A M a w hN R
  have hbl : b < h.length := (List.getElem?_eq_some_iff.1 hb).1
  have hget : ∀ {j : Nat} {B : Blk}, (h.set b (some ⟨e, cs'⟩))[j]? = some (some B) → ∃ B0, h[j]? = some (some B0) ∧ B0.e = B.e ∧ V.les yB B0.cells B.cells ∧ (∀ c ∈ B.cells, c.one = true) := by
    intro j B hj
    by_cases hij : b = j
    · subst hij
      rw [List.getElem?_set_self hbl] at hj
      obtain rfl := Option.some.inj (Option.some.inj hj)
      exact ⟨_, hb, rfl, hl, List.all_eq_true.1 ho⟩
    · rw [List.getElem?_set_ne hij] at hj
      exact ⟨B, hj, rfl, V.les_refl _ _, (R.hr.blk j B hj).1⟩
  have hlive : ∀ g, d7 M (h.set b (some ⟨e, cs'⟩)) g → d7 M h g := by
    rintro g ⟨j, B, hj, hm⟩
    obtain ⟨B0, h1, _⟩ := hget hj
    exact ⟨j, B0, h1, hm⟩
  have hX : ∀ g, Xs A M (h.set b (some ⟨e, cs'⟩)) g → Xs A M h g := fun g hx => hx.elim .inl (fun hl => .inr (hlive g hl))
  refine ⟨M, rfl, ⟨⟨by rw [R.hr.len, List.length_set], R.hr.alt, ?_, ?_, R.hr.glob.avoid fun g _ hx => hX g hx⟩, ⟨R.sr.len, fun t x hx => (R.sr.val t x hx).avoid (fun g _ hx => hX g hx)⟩, R.defers⟩, hlive⟩
  · intro j B hj
    obtain ⟨B0, h1, h2, h3, h4⟩ := hget hj
    refine ⟨h4, ?_⟩
    have hlen : B0.cells.length = B.cells.length := V.les_length h3
    rcases (R.hr.blk j B0 h1).2 with ⟨hn, hc0⟩ | ⟨g, ds, hg, hA, hw, hle, hcs⟩
    · exact .inl ⟨hn, List.eq_nil_of_length_eq_zero (by rw [← hlen, hc0]; rfl)⟩
    · refine .inr ⟨g, ds, hg, hA, by rw [← h2, ← hlen]; exact hw, by rw [← hlen]; exact hle, ?_⟩
      rw [← hlen]
      exact (V.les_sound (fun _ hb => by cases hb) _ _ _ h3 hcs).avoid (fun g _ hx => hX g hx)
  · intro i j B C g hi hj mi mj
    obtain ⟨B1, h1, _⟩ := hget hi
    obtain ⟨C1, k1, _⟩ := hget hj
    exact R.hr.inj i j B1 C1 g h1 k1 mi mj
end Go.Vm
set_option linter.unusedSimpArgs false
set_option linter.unusedVariables false
namespace Go.Vm
open Go
def tY {α : Type} (l : List α) (a c : Int) : Option (List α) := if 0 ≤ a ∧ a < c ∧ c ≤ l.length then some ((l.take c.toNat).drop a.toNat) else none
theorem aAs {α : Type} {l x : List α} {a c : Int} (h : tY l a c = some x) : 0 ≤ a ∧ a < c ∧ c ≤ l.length ∧ x = (l.take c.toNat).drop a.toNat ∧ x.length = c.toNat - a.toNat := by
  unfold tY at h
  split at h
  · rename_i hc
    injection h with h
    refine ⟨hc.1, hc.2.1, hc.2.2, h.symm, ?_⟩
    rw [← h, List.length_drop, List.length_take]; omega
  · cases h
theorem aJR {α : Type} {l x : List α} {a c j : Int} {y : α} (h : tY l a c = some x) (hx : dB x j = some y) : l[a.toNat + j.toNat]? = some y := by
  obtain ⟨_, _, _, e, _⟩ := aAs h
  obtain ⟨_, _, h3⟩ := jK hx
  rw [e, List.getElem?_drop, List.getElem?_take] at h3
  split at h3
  · exact h3
  · cases h3
section
variable {P : Program} {h h' : Hp} {t e : TypeId} {ti : TI} {α : Type} {E : α → V} {l x m : List α} {sz by_ b : Nat} {z : Value} {ag : Bool} {lo hi : Option V} {a c j : Int} {y : α} {k : IntKind} {N n : Nat} {i q K : Nat}
theorem aMa (hq : l.length = q) (ht : a8 P t = some ⟨.slice e, sz, by_, z⟩) (he : a8 P e = some ti) (hK : ti.size = K) (h1 : sZ lo = some a) (h2 : t4 hi q = some c) (hs : tY l a c = some x) : kZ P t h (.sl b 0 q K ag) lo hi = some (.sl b (a.toNat * K) x.length K ag) := by
  subst hK hq
  obtain ⟨s1, s2, s3, s4, s5⟩ := aAs hs
  simp only [kZ, ht, he, h1, h2]
  rw [if_pos ⟨trivial, s1, by omega, s3⟩, s5]
  by_cases h0 : a = 0
  · subst h0; simp
  · rw [if_neg h0, if_pos s2, Nat.zero_add]
theorem aI3 (hq : l.length = q) (ht : a8 P t = some ⟨.slice e, sz, by_, z⟩) (he : a8 P e = some ti) (hK : ti.size = K) (h1 : sZ lo = some 0) (h2 : t4 hi q = some c) (hs : sub l 0 c = some x) : kZ P t h (.sl b 0 q K ag) lo hi = some (.sl b 0 x.length K ag) := by
  subst hK hq
  unfold sub at hs
  split at hs
  · rename_i hc
    injection hs with hs
    have hl : x.length = c.toNat := by rw [← hs]; simp; omega
    simp only [kZ, ht, he, h1, h2]
    rw [if_pos ⟨trivial, by omega, hc.2.1, hc.2.2⟩, if_pos trivial, hl]
  · cases hs
theorem aJX (ht : a8 P t = some ⟨.array N e, sz, by_, z⟩) (he : a8 P e = some ti) (hsz : ti.size = 1) (hag : c7 ti.desc = ag) (hb : h[b]? = some (some ⟨i, l.map E⟩)) (hl : l.length = N) (hN : N ≤ pC) (h1 : sZ lo = some a) (h2 : t4 hi N = some c) (hs : tY l a c = some x) : kZ P t h (.ptr b 0) lo hi = some (.sl b (a.toNat * 1) x.length 1 ag) := by
  subst hag
  obtain ⟨s1, s2, s3, s4, s5⟩ := aAs hs
  simp only [kZ, ht, he, h1, h2, hb]
  rw [if_pos ⟨by omega, hN, s1, s2, by omega, by simp [hsz, hl]⟩, hsz, s5, Nat.zero_add]
theorem iaY (hq : x.length = q) (ht : a8 P t = some ⟨.slice e, sz, by_, z⟩) (he : a8 P e = some ti) (hK : ti.size = 1) (hx : dB x j = some y) : iI P t (.sl b (a.toNat * 1) q 1 ag) (.sc (.int k j)) = some (.ptr b (a.toNat + j.toNat)) := by
  obtain ⟨h2, h3, _⟩ := jK hx
  subst hq
  simp [iI, ht, q7, he, hK, h2, h3]
theorem ldY (ht : a8 P t = some ti) (hd : c7 ti.desc = false) (hb : h[b]? = some (some ⟨i, l.map E⟩)) (hs : tY l a c = some x) (hx : dB x j = some y) : fY P t h (.ptr b (a.toNat + j.toNat)) = some (E y) := by
  have h3 := aJR hs hx
  simp [fY, hb, fX, ht, hd, h3]
theorem apS (ht : a8 P t = some ⟨.array N e, sz, by_, z⟩) (hN : 0 < N) (hq : x.length = q) (hx : sY N x = some m) : yR P t (.sl b n q 1 ag) = some (.ptr b n) := by
  unfold sY at hx
  split at hx
  · rename_i hl
    simp only [yR, ht]
    rw [if_pos ⟨hN, by omega⟩]
  · cases hx
theorem aI2 (ht : a8 P t = some ⟨.array N e, sz, by_, z⟩) (hsz : sz = N) (hb : h[b]? = some (some ⟨i, l.map E⟩)) (hs : tY l a c = some x) (hx : sY N x = some m) : fY P t h (.ptr b (a.toNat * 1)) = some (.agg (m.map E)) := by
  subst hsz
  obtain ⟨s1, s2, s3, s4, s5⟩ := aAs hs
  unfold sY at hx
  split at hx
  · rename_i hl
    injection hx with hx
    simp only [fY, hb, fX, ht, c7, if_true, Nat.mul_one]
    have hlen : sz ≤ ((l.map E).drop a.toNat).length := by simp; omega
    rw [if_pos hlen]
    congr 2
    rw [← hx, s4, List.map_take, List.map_drop, List.map_take, List.drop_take, List.take_take, Nat.min_eq_left (by omega)]
  · cases hx
end
theorem Ghost.cut {N n : Nat} {fr : List (Nat × V)} {h : Hp} {b e t q K k : Nat} {ag : Bool} {cs : List V} (hl : cP n fr (.tmp t) = some (.sl b 0 q K ag)) (hb : h[b]? = some (some ⟨e, cs⟩)) : Ghost N (aV n fr) h (aV n fr) (h.set b (some ⟨e, cs.take k⟩)) := by
  intro A M a w hN R
  have hbl : b < h.length := (List.getElem?_eq_some_iff.1 hb).1
  have hget : ∀ {j : Nat} {B : Blk}, (h.set b (some ⟨e, cs.take k⟩))[j]? = some (some B) → (j = b ∧ B = ⟨e, cs.take k⟩) ∨ (h[j]? = some (some B) ∧ j ≠ b) := by
    intro j B hj
    by_cases hij : b = j
    · subst hij
      rw [List.getElem?_set_self hbl] at hj
      exact .inl ⟨rfl, (Option.some.inj (Option.some.inj hj)).symm⟩
    · rw [List.getElem?_set_ne hij] at hj
      exact .inr ⟨hj, fun hh => hij hh.symm⟩
  have hlive : ∀ g, d7 M (h.set b (some ⟨e, cs.take k⟩)) g → d7 M h g := by
    rintro g ⟨j, B, hj, hm⟩
    rcases hget hj with ⟨rfl, _⟩ | ⟨h1, _⟩
    · exact ⟨j, _, hb, hm⟩
    · exact ⟨j, B, h1, hm⟩
  have hX : ∀ g, Xs A M (h.set b (some ⟨e, cs.take k⟩)) g → Xs A M h g := fun g hx => hx.elim .inl (fun hl => .inr (hlive g hl))
  refine ⟨M, rfl, ⟨⟨by rw [R.hr.len, List.length_set], R.hr.alt, ?_, ?_, R.hr.glob.avoid fun g _ hx => hX g hx⟩, ⟨R.sr.len, fun t x hx => (R.sr.val t x hx).avoid (fun g _ hx => hX g hx)⟩, R.defers⟩, hlive⟩
  · intro j B hj
    rcases hget hj with ⟨rfl, rfl⟩ | ⟨h1, hne⟩
    · obtain ⟨hone, hcase⟩ := R.hr.blk j _ hb
      refine ⟨fun c hc => hone c (List.mem_of_mem_take hc), ?_⟩
      rcases hcase with ⟨hn, hc0⟩ | ⟨g, ds, hg, hA, hw, hle, hcs⟩
      · simp only at hc0
        subst hc0
        exact .inl ⟨hn, by simp⟩
      · refine .inr ⟨g, ds, hg, hA, ?_, by simp only [List.length_take] at hle ⊢; omega, ?_⟩
        · rcases hw with hw | ⟨es, clock, hm, hok, heq⟩
          · exact .inl hw
          · exfalso
            have hev := dH hl
            simp only [ev] at hev
            have hv := R.sr.val t (.sl j 0 q K ag) hev
            unfold VR at hv
            rcases hv with ⟨hm0, _⟩ | ⟨g', cap, e', sz, hm', _, _, _, _, hshp, _⟩
            · rw [hg] at hm0; cases hm0
            · rw [hg] at hm'
              obtain rfl := Option.some.inj (Option.some.inj hm')
              unfold World.shape? at hshp
              rw [hm] at hshp
              cases hshp
        · have := hcs.take k
          rw [List.take_take] at this
          simp only [List.length_take]
          exact this.avoid (fun g _ hx => hX g hx)
    · obtain ⟨hone, hcase⟩ := R.hr.blk j B h1
      refine ⟨hone, ?_⟩
      rcases hcase with hn | ⟨g, ds, hg, hA, hw, hle, hcs⟩
      · exact .inl hn
      · exact .inr ⟨g, ds, hg, hA, hw, hle, hcs.avoid (fun g _ hx => hX g hx)⟩
  · intro i j B C g hi hj mi mj
    have f : ∀ {j : Nat} {B : Blk}, (h.set b (some ⟨e, cs.take k⟩))[j]? = some (some B) → ∃ B0, h[j]? = some (some B0) := by
      intro j B hj
      rcases hget hj with ⟨e1, _⟩ | ⟨e1, _⟩
      · exact ⟨_, by rw [e1]; exact hb⟩
      · exact ⟨_, e1⟩
    obtain ⟨B1, h1⟩ := f hi
    obtain ⟨C1, k1⟩ := f hj
    exact R.hr.inj i j B1 C1 g h1 k1 mi mj
section
variable {N n b e t q K : Nat} {fr : List (Nat × V)} {h h' : Hp} {ag : Bool} {α : Type} {E : α → V} {C : α → List V} {l x : List α} {c : Int}
theorem Ghost.cutM (hl : cP n fr (.tmp t) = some (.sl b 0 q 1 ag)) (hb : h[b]? = some (some ⟨e, l.map E⟩)) (hs : sub l 0 c = some x) (hh : h.set b (some ⟨e, x.map E⟩) = h') : Ghost N (aV n fr) h (aV n fr) h' := by
  subst hh
  unfold sub at hs
  split at hs
  · injection hs with hs
    have : x.map E = (l.map E).take c.toNat := by rw [← hs, ← List.map_take]; simp
    rw [this]
    exact Ghost.cut hl hb
  · cases hs
theorem Ghost.cutF (hC : ∀ x, (C x).length = K) (hl : cP n fr (.tmp t) = some (.sl b 0 q K ag)) (hb : h[b]? = some (some ⟨e, l.flatMap C⟩)) (hs : sub l 0 c = some x) (hh : h.set b (some ⟨e, x.flatMap C⟩) = h') : Ghost N (aV n fr) h (aV n fr) h' := by
  subst hh
  unfold sub at hs
  split at hs
  · injection hs with hs
    have : x.flatMap C = (l.flatMap C).take (c.toNat * K) := by rw [← hs]; simp only [Int.toNat_zero, List.drop_zero]; exact (aFT hC _ _).symm
    rw [this]
    exact Ghost.cut hl hb
  · cases hs
end
abbrev CA4 (E : Int → V) (x : List Int) : List V := cB E x []
abbrev aBE (E : Int → V) (x : List Int) : List V := aX E x []
@[simp] theorem aFl {f : Nat → Nat} {k : IntKind} (l : List (List Int)) : V.rns f (l.flatMap (CA4 (eI k))) = l.flatMap (CA4 (eI k)) := kA (fun _ => rfl) l
@[simp] theorem aDr {f : Nat → Nat} {k : IntKind} (l : List (List Int)) : V.rns f (l.flatMap (aBE (eI k))) = l.flatMap (aBE (eI k)) := kA (fun _ => rfl) l
theorem aMr {P : Program} {t : TypeId} {n : Nat} {ps ps' : List (Nat × V)} {h : Hp} {r : V × Hp} (e : ps = ps') (hb : jB P t n ps' h = some r) : jB P t n ps h = some r := by rw [e]; exact hb
theorem Conv.rowKA {C : List Int → List V} {E : Int → V} {K : Nat} {l : List (List Int)} (hC : ∀ x, (C x).length = K) (h1K : ∀ x, (C x).all V.one = true) (hsh : ∀ x, (C x).all V.shut = true) (hcx : ∀ x ∈ l, C x = x.map E) {h h' : Hp} (hs : Sub h h') {b n : Nat} {e : TypeId} (hb : h[b]? = some (some ⟨e, l.flatMap C⟩)) (hb' : h'[b]? = some none) (hn : n = l.length) : Conv h h' (.sl b 0 n K true) (.row none K (l.map (eA E))) := by
  have := Conv.rowK hC h1K hsh hs hb hb' hn
  rwa [show (l.map fun x => V.agg (C x)) = l.map (eA E) from List.map_congr_left fun x hx => by rw [hcx x hx]] at this
theorem AB.scope {P : Program} {N : Nat} {Q : Ex → List V → Hp → Prop} {s : List V} {h : Hp} {c : Code} (hh : AB P N c Q s h) : AB P N (.scope c) Q s h := by
  intro A M0 M h0 w0 a w hN hM G R
  refine wp_scope_straight (Code.wp_mono (fun e a' w' ⟨x, s1, h1, M1, he, hq, G1, R1⟩ => ?_) (hh A M0 M h0 w0 a w hN hM G R))
  subst he
  cases x with
  | normal => exact ⟨.normal, s1, h1, M1, rfl, hq, G1, R1⟩
  | exit i => exact ⟨.exit i, s1, h1, M1, rfl, hq, G1, R1⟩
  | ret => exact ⟨.ret, s1, h1, M1, rfl, hq, G1, R1⟩
theorem AB.label {P : Program} {N : Nat} {Q : Ex → List V → Hp → Prop} {s : List V} {h : Hp} {l : Nat} (hq : Q .normal s h) : AB P N (.label l) Q s h := by
  intro A M0 M h0 w0 a w hN hM G R
  exact wp_label ⟨.normal, s, h, M, rfl, hq, G, R⟩
def tM (x y c : Int) : Option (Int × Int) := if c.toNat ≤ 1 then some ((((x.toNat + y.toNat + c.toNat) % 18446744073709551616 : Nat) : Int), (((x.toNat + y.toNat + c.toNat) / 18446744073709551616 : Nat) : Int)) else none
def aCL (x y c : Int) : Option (Int × Int) := if c.toNat ≤ 1 then some ((((x.toNat + 18446744073709551616 - y.toNat - c.toNat) % 18446744073709551616 : Nat) : Int), ((if x.toNat < y.toNat + c.toNat then 1 else 0 : Nat) : Int)) else none
def aLx : Array Value → Sem Value := (Extern.MathBitsCarry.rows.get ⟨0, by decide⟩).2
def aLA : Array Value → Sem Value := (Extern.MathBitsCarry.rows.get ⟨1, by decide⟩).2
theorem aJN {P : Program} {f : FuncId} {fn : Func} (hf : P.funcs[f]? = some fn) (hn : (fn.name == "runtime.NumGoroutine") = false) (hb : fn.body.isNone = true) (h1 : Extern.findNext fn = none) (h2 : Extern.find fn = some aLx) {x y c : Int} {r : Int × Int} (hr : tM x y c = some r) : Fn P f [] [eI .u64 x, eI .u64 y, eI .u64 c] (.tup [eI .u64 r.1, eI .u64 r.2]) [] := by
  unfold tM at hr
  split at hr
  · rename_i hc
    injection hr with hr
    subst hr
    refine aJl hf hn hb h1 h2 fun X M w vs hv => ?_
    unfold VCells at hv
    obtain ⟨v, rest, rfl, hv, hr⟩ := hv
    unfold VCells at hr
    obtain ⟨u, rest, rfl, hu, hr⟩ := hr
    unfold VCells at hr
    obtain ⟨z, rest, rfl, hz, hr⟩ := hr
    unfold VCells at hr
    subst hr
    unfold VR at hv hu hz
    subst hv hu hz
    have hgt : ¬ c.toNat > 1 := by omega
    refine ⟨.tuple #[.int .u64 (((x.toNat + y.toNat + c.toNat) % 18446744073709551616 : Nat) : Int), .int .u64 (((x.toNat + y.toNat + c.toNat) / 18446744073709551616 : Nat) : Int)], ?_, ?_⟩
    · match c, hgt with
      | .ofNat 0, _ => rfl
      | .ofNat 1, _ => rfl
      | .ofNat (k + 2), hgt => exact absurd (show (Int.ofNat (k + 2)).toNat > 1 by simp; omega) hgt
      | .negSucc k, _ => rfl
    · unfold VR
      exact ⟨_, rfl, by unfold VCells; exact ⟨_, _, rfl, by unfold VR; rfl, by unfold VCells; exact ⟨_, _, rfl, by unfold VR; rfl, by unfold VCells; rfl⟩⟩⟩
  · cases hr
theorem aKq {P : Program} {f : FuncId} {fn : Func} (hf : P.funcs[f]? = some fn) (hn : (fn.name == "runtime.NumGoroutine") = false) (hb : fn.body.isNone = true) (h1 : Extern.findNext fn = none) (h2 : Extern.find fn = some aLA) {x y c : Int} {r : Int × Int} (hr : aCL x y c = some r) : Fn P f [] [eI .u64 x, eI .u64 y, eI .u64 c] (.tup [eI .u64 r.1, eI .u64 r.2]) [] := by
  unfold aCL at hr
  split at hr
  · rename_i hc
    injection hr with hr
    subst hr
    refine aJl hf hn hb h1 h2 fun X M w vs hv => ?_
    unfold VCells at hv
    obtain ⟨v, rest, rfl, hv, hr⟩ := hv
    unfold VCells at hr
    obtain ⟨u, rest, rfl, hu, hr⟩ := hr
    unfold VCells at hr
    obtain ⟨z, rest, rfl, hz, hr⟩ := hr
    unfold VCells at hr
    subst hr
    unfold VR at hv hu hz
    subst hv hu hz
    have hgt : ¬ c.toNat > 1 := by omega
    refine ⟨.tuple #[.int .u64 (((x.toNat + 18446744073709551616 - y.toNat - c.toNat) % 18446744073709551616 : Nat) : Int), .int .u64 ((if x.toNat < y.toNat + c.toNat then 1 else 0 : Nat) : Int)], ?_, ?_⟩
    · match c, hgt with
      | .ofNat 0, _ => rfl
      | .ofNat 1, _ => rfl
      | .ofNat (k + 2), hgt => exact absurd (show (Int.ofNat (k + 2)).toNat > 1 by simp; omega) hgt
      | .negSucc k, _ => rfl
    · unfold VR
      exact ⟨_, rfl, by unfold VCells; exact ⟨_, _, rfl, by unfold VR; rfl, by unfold VCells; exact ⟨_, _, rfl, by unfold VR; rfl, by unfold VCells; rfl⟩⟩⟩
  · cases hr
end Go.Vm
set_option linter.unusedSimpArgs false
set_option linter.unusedVariables false
namespace Go.Vm
open Go
theorem sj {α : Type} {a b : α} (h : some a = some b) : a = b := Option.some.inj h
section
variable {P : Program} {ops : Array Oper} {l : List Oper} {n N : Nat} {fr : List (Nat × V)} {h h' h1 : Hp} {K : List V → Hp → Prop} {op : Op} {ty : TypeId} {pos : String} {aft : Array Edge} {t : Nat} {v c d : V} {x y z : Operand} {Q : Ex → List V → Hp → Prop} {ty' u : TypeId}
theorem zi {k : IntKind} {i : Int} (q : OpsW P N ops l (aV n ((t, eI k i) :: fr)) h K) : OpsW P N ops (⟨some t, .assign (.const (.int k i)), ty, pos, aft, none⟩ :: l) (aV n fr) h K := wS (sv (bE rfl)) q
theorem zI {k : IntKind} {i : Int} (q : OpsW P N ops l (aV n ((t, eI k i) :: fr)) h K) : OpsW P N ops (⟨some t, .move (.const (.int k i)), ty, pos, aft, none⟩ :: l) (aV n fr) h K := wS (sv (bI rfl)) q
theorem zj {i : Bool} (q : OpsW P N ops l (aV n ((t, eB i) :: fr)) h K) : OpsW P N ops (⟨some t, .assign (.const (.bool i)), ty, pos, aft, none⟩ :: l) (aV n fr) h K := wS (sv (bE rfl)) q
theorem dG {k : IntKind} {a b : Int} (hx : cP n fr x = some (eI k a)) (hy : cP n fr y = some (eI k b)) (q : OpsW P N ops l (aV n ((t, eI k (k.wrap (a + b))) :: fr)) h K) : OpsW P N ops (⟨some t, .binOp .add ty' x y u, ty, pos, aft, none⟩ :: l) (aV n fr) h K := wS (sv (a9 hx hy (qJ ..))) q
theorem vP {k : IntKind} {a b : Int} (hx : cP n fr x = some (eI k a)) (hy : cP n fr y = some (eI k b)) (q : OpsW P N ops l (aV n ((t, eI k (k.wrap (a - b))) :: fr)) h K) : OpsW P N ops (⟨some t, .binOp .sub ty' x y u, ty, pos, aft, none⟩ :: l) (aV n fr) h K := wS (sv (a9 hx hy (fM ..))) q
theorem z4 {k : IntKind} {a b : Int} (hx : cP n fr x = some (eI k a)) (hy : cP n fr y = some (eI k b)) (q : OpsW P N ops l (aV n ((t, eI k (k.wrap (a * b))) :: fr)) h K) : OpsW P N ops (⟨some t, .binOp .mul ty' x y u, ty, pos, aft, none⟩ :: l) (aV n fr) h K := wS (sv (a9 hx hy (aCI ..))) q
theorem zqA {k : IntKind} {a b : Int} (hx : cP n fr x = some (eI k a)) (hy : cP n fr y = some (eI k b)) (q : OpsW P N ops l (aV n ((t, eI k (bits .and k a b)) :: fr)) h K) : OpsW P N ops (⟨some t, .binOp .and ty' x y u, ty, pos, aft, none⟩ :: l) (aV n fr) h K := wS (sv (a9 hx hy (aE3 ..))) q
theorem zqO {k : IntKind} {a b : Int} (hx : cP n fr x = some (eI k a)) (hy : cP n fr y = some (eI k b)) (q : OpsW P N ops l (aV n ((t, eI k (bits .or k a b)) :: fr)) h K) : OpsW P N ops (⟨some t, .binOp .or ty' x y u, ty, pos, aft, none⟩ :: l) (aV n fr) h K := wS (sv (a9 hx hy (aDQ ..))) q
theorem zqX {k : IntKind} {a b : Int} (hx : cP n fr x = some (eI k a)) (hy : cP n fr y = some (eI k b)) (q : OpsW P N ops l (aV n ((t, eI k (bits .xor k a b)) :: fr)) h K) : OpsW P N ops (⟨some t, .binOp .xor ty' x y u, ty, pos, aft, none⟩ :: l) (aV n fr) h K := wS (sv (a9 hx hy (uF ..))) q
theorem hZ {k : IntKind} {a b : Int} (hx : cP n fr x = some (eI k a)) (hy : cP n fr y = some (eI k b)) (q : OpsW P N ops l (aV n ((t, eB (a == b)) :: fr)) h K) : OpsW P N ops (⟨some t, .binOp .eql ty' x y u, ty, pos, aft, none⟩ :: l) (aV n fr) h K := wS (sv (a9 hx hy (qQ ..))) q
theorem rE {k : IntKind} {a b : Int} (hx : cP n fr x = some (eI k a)) (hy : cP n fr y = some (eI k b)) (q : OpsW P N ops l (aV n ((t, eB (a != b)) :: fr)) h K) : OpsW P N ops (⟨some t, .binOp .neq ty' x y u, ty, pos, aft, none⟩ :: l) (aV n fr) h K := wS (sv (a9 hx hy (aEX ..))) q
theorem eY {k : IntKind} {a b : Int} (hx : cP n fr x = some (eI k a)) (hy : cP n fr y = some (eI k b)) (q : OpsW P N ops l (aV n ((t, eB (decide (a < b))) :: fr)) h K) : OpsW P N ops (⟨some t, .binOp .lss ty' x y u, ty, pos, aft, none⟩ :: l) (aV n fr) h K := wS (sv (a9 hx hy (sO ..))) q
theorem zqk {k : IntKind} {a b : Int} (hx : cP n fr x = some (eI k a)) (hy : cP n fr y = some (eI k b)) (q : OpsW P N ops l (aV n ((t, eB (decide (a ≤ b))) :: fr)) h K) : OpsW P N ops (⟨some t, .binOp .leq ty' x y u, ty, pos, aft, none⟩ :: l) (aV n fr) h K := wS (sv (a9 hx hy (yU ..))) q
theorem sC {k : IntKind} {a b : Int} (hx : cP n fr x = some (eI k a)) (hy : cP n fr y = some (eI k b)) (q : OpsW P N ops l (aV n ((t, eB (decide (b < a))) :: fr)) h K) : OpsW P N ops (⟨some t, .binOp .gtr ty' x y u, ty, pos, aft, none⟩ :: l) (aV n fr) h K := wS (sv (a9 hx hy (mS ..))) q
theorem zY {k : IntKind} {a b : Int} (hx : cP n fr x = some (eI k a)) (hy : cP n fr y = some (eI k b)) (q : OpsW P N ops l (aV n ((t, eB (decide (b ≤ a))) :: fr)) h K) : OpsW P N ops (⟨some t, .binOp .geq ty' x y u, ty, pos, aft, none⟩ :: l) (aV n fr) h K := wS (sv (a9 hx hy (wJ ..))) q
theorem dP {i off : Nat} {e : TypeId} {cs : List V} {ti : TI} (hx : cP n fr x = some (.ptr i off)) (hb : h[i]? = some (some ⟨e, cs⟩)) (ht : a8 P ty' = some ti) (hc : (cs.drop off).head? = some v) (q : OpsW P N ops l (aV n ((t, v) :: fr)) h K) (hd : c7 ti.desc = false := by rfl) : OpsW P N ops (⟨some t, .load ty' x, ty, pos, aft, none⟩ :: l) (aV n fr) h K := wS (sv (aI hx (bZ hb (bX ht hd hc)))) q
theorem cQ {f : Nat} (hx : cP n fr x = some c) (hv : bK P ty' c f = some v) (q : OpsW P N ops l (aV n ((t, v) :: fr)) h K) : OpsW P N ops (⟨some t, .fieldAddr ty' x f, ty, pos, aft, none⟩ :: l) (aV n fr) h K := wS (sv (eE hx hv)) q
theorem eT {α : Type} {E : α → V} {nl : Option Bool} {k sz by_ : Nat} {e : TypeId} {m : List α} {zv : Value} (hx : cP n fr x = some (.row nl k (m.map E))) (ht : a8 P ty' = some ⟨.slice e, sz, by_, zv⟩) (q : OpsW P N ops l (aV n ((t, eI .i64 (m.length : Int)) :: fr)) h K) : OpsW P N ops (⟨some t, .call ⟨.builtin .len, #[x], #[ty']⟩, ty, pos, aft, none⟩ :: l) (aV n fr) h K := wS (sv (gQ hx (zP ht))) q
theorem iW {i : Nat} {vs : List V} (hx : cP n fr x = some (.tup vs)) (hv : vs[i]? = some v) (q : OpsW P N ops l (aV n ((t, v) :: fr)) h K) : OpsW P N ops (⟨some t, .extract x i, ty, pos, aft, none⟩ :: l) (aV n fr) h K := wS (sv (rF hx hv)) q
theorem oB {b : Bool} (hz : cP n fr z = some (.sc (.bool b))) (hc : b = false) (hy : cP n fr y = some v) (q : OpsW P N ops l (aV n ((t, v) :: fr)) h K) : OpsW P N ops (⟨some t, .pick z x y, ty, pos, aft, none⟩ :: l) (aV n fr) h K := wS (sv (fV hz hc hy)) q
theorem zpT {b : Bool} (hz : cP n fr z = some (.sc (.bool b))) (hc : b = true) (hx : cP n fr x = some v) (q : OpsW P N ops l (aV n ((t, v) :: fr)) h K) : OpsW P N ops (⟨some t, .pick z x y, ty, pos, aft, none⟩ :: l) (aV n fr) h K := wS (sv (c9 hz hc hx)) q
theorem zN (hd : bT P O0 ⟨none, op, ty, pos, aft, none⟩ (aV n fr) h = some (v, h')) (k : OpsW P N ops l (aV n fr) h' K) : OpsW P N ops (⟨none, op, ty, pos, aft, none⟩ :: l) (aV n fr) h K := wN (sv hd) k
theorem zh (hd : bT P O0 ⟨some t, op, ty, pos, aft, none⟩ (aV n fr) h = some (v, h1)) (q : OpsW P N ops l (aV n ((t, v) :: fr)) h' K) (hh : h1 = h' := by first | (simp only [List.set_cons_zero, List.set_cons_succ, List.cons_append, List.nil_append, splice, V.cells, List.take_succ_cons, List.take_zero, List.drop_succ_cons, List.drop_zero, List.length_cons, List.length_nil, Nat.reduceAdd, Nat.zero_add] <;> rfl) | rfl) : OpsW P N ops (⟨some t, op, ty, pos, aft, none⟩ :: l) (aV n fr) h K := by subst hh; exact wS (sv hd) q
theorem zt (hd : bT P O0 ⟨none, op, ty, pos, aft, none⟩ (aV n fr) h = some (v, h1)) (q : OpsW P N ops l (aV n fr) h' K) (hh : h1 = h' := by first | (simp only [List.set_cons_zero, List.set_cons_succ, List.cons_append, List.nil_append, splice, V.cells, List.take_succ_cons, List.take_zero, List.drop_succ_cons, List.drop_zero, List.length_cons, List.length_nil, Nat.reduceAdd, Nat.zero_add] <;> rfl) | rfl) : OpsW P N ops (⟨none, op, ty, pos, aft, none⟩ :: l) (aV n fr) h K := by subst hh; exact wN (sv hd) q
theorem cK {O : rC} {dd : Option Tmp} {g : Option (Nat × Bool)} {e : TypeId} {i : Nat} {ti : TI} {B : Option Blk} (ht : a8 P e = some ti) (hB : some ⟨e, ti.zero.cells.toList.map fN⟩ = B) (hl : h.length = i) (ho : (ti.zero.cells.toList.map fN).all V.one = true := by rfl) : bT P O ⟨dd, .alloc e, ty, pos, aft, g⟩ (aV n fr) h = some (.ptr i 0, h ++ [B]) := nS ht ho hl (by rw [hB])
variable {j w : Nat} {want b : Bool}
theorem zx (hc : b = !want) (q : OpsW P N ops l (aV n ((t, .sc undef) :: fr)) h K) (hj : (ops[j]?).bind (·.dst) = some w := by rfl) (hl : cP n fr (.tmp w) = some (.sc (.bool b)) := by rfl) : OpsW P N ops (⟨some t, op, ty, pos, aft, some (j, want)⟩ :: l) (aV n fr) h K := wS (uT hj hl hc) q
theorem zu (q : OpsW P N ops l (aV n ((t, .sc undef) :: fr)) h K) (hj : (ops[j]?).bind (·.dst) = some w := by rfl) (hl : cP n fr (.tmp w) = some (.sc undef) := by rfl) : OpsW P N ops (⟨some t, op, ty, pos, aft, some (j, want)⟩ :: l) (aV n fr) h K := wS (svU hj hl) q
theorem zg (hc : b = want) (hd : bT P O0 ⟨some t, op, ty, pos, aft, some (j, want)⟩ (aV n fr) h = some (v, h')) (q : OpsW P N ops l (aV n ((t, v) :: fr)) h' K) (hj : (ops[j]?).bind (·.dst) = some w := by rfl) (hl : cP n fr (.tmp w) = some (.sc (.bool b)) := by rfl) : OpsW P N ops (⟨some t, op, ty, pos, aft, some (j, want)⟩ :: l) (aV n fr) h K := wS (uB hj hl hc hd) q
theorem zk {co : Operand} {X Y : Code} {α : Type} {A B : Option α} {r : α} (hr : (if b = true then A else B) = some r) (hc : cP n fr co = some (.sc (.bool b))) (g1 : b = true → A = some r → AB P N X Q (aV n fr) h) (g2 : b = false → B = some r → AB P N Y Q (aV n fr) h) : AB P N (.cond co X Y) Q (aV n fr) h := AB.cnd hc (fun e => g1 e (gE hr e)) (fun e => g2 e (gB hr e))
theorem zf {f : FuncId} {fn : Func} {co : Code} {args : List V} {r : V} (hf : P.funcs[f]? = some fn) (hnt : fn.ntmps = n) (hh : AB P N co (aDA P fn N r h') (aV n fr) h) (hb : fn.body = some co := by rfl) (hn : (fn.name == "runtime.NumGoroutine") = false := by kernel_rfl) (hal : args.length ≤ n := by exact zl) (hN : h.length = N := by rfl) (hfr : num 0 args = fr := by (simp only [num, Nat.reduceAdd, Nat.zero_add] <;> rfl)) : Fn P f h args r h' := aMB hf hb hn hnt hal hN hfr hh
variable {F G : FuncId → Bool} {m : Nat} {listed : Array Bool} {s : List V} {o : Oper} {s1 : List V}
theorem zp (n i : Nat) (ho : ops[i]? = some o) (e : StepR P F G ops o s h s1 h1) (k : DrawG P N F G ops n (listed.setIfInBounds i true) s1 h1 K) (hp : y6 F G ops listed i = true := by decide +kernel) : DrawG P N F G ops (n + 1) listed s h K := DrawG.pick hp ho e k
theorem bH (hd : bT P O0 ⟨some t, op, ty, pos, aft, none⟩ (aV m fr) h = some (v, h')) : StepR P F G ops ⟨some t, op, ty, pos, aft, none⟩ (aV m fr) h (aV m ((t, v) :: fr)) h' := gS (sv hd)
theorem jV (hd : bT P O0 ⟨none, op, ty, pos, aft, none⟩ (aV m fr) h = some (v, h')) : StepR P F G ops ⟨none, op, ty, pos, aft, none⟩ (aV m fr) h (aV m fr) h' := gN (sv hd)
theorem dO (n i : Nat) (ho : ops[i]? = some ⟨some t, .move x, ty, pos, aft, none⟩) (hx : cP m fr x = some v) (k : DrawG P N F G ops n (listed.setIfInBounds i true) (aV m ((t, v) :: fr)) h K) (hp : y6 F G ops listed i = true := by decide +kernel) : DrawG P N F G ops (n + 1) listed (aV m fr) h K := DrawG.pick hp ho (gS (sv (bI hx))) k
theorem nL (n i : Nat) (ho : ops[i]? = some ⟨some t, .assign x, ty, pos, aft, none⟩) (hx : cP m fr x = some v) (k : DrawG P N F G ops n (listed.setIfInBounds i true) (aV m ((t, v) :: fr)) h K) (hp : y6 F G ops listed i = true := by decide +kernel) : DrawG P N F G ops (n + 1) listed (aV m fr) h K := DrawG.pick hp ho (gS (sv (bE hx))) k
theorem kP (n i : Nat) {f : Nat} (ho : ops[i]? = some ⟨some t, .fieldAddr ty' x f, ty, pos, aft, none⟩) (hx : cP m fr x = some c) (hv : bK P ty' c f = some v) (k : DrawG P N F G ops n (listed.setIfInBounds i true) (aV m ((t, v) :: fr)) h K) (hp : y6 F G ops listed i = true := by decide +kernel) : DrawG P N F G ops (n + 1) listed (aV m fr) h K := DrawG.pick hp ho (gS (sv (eE hx hv))) k
end
theorem zV {N n : Nat} {fr : List (Nat × V)} {h : Hp} (fr' : List (Nat × V)) (h' : Hp)
    (hf : FCv h h' fr fr' := by repeat (first | exact FCv.nil | refine FCv.cons rfl (Conv.same (aZ rfl)) ?_ | refine FCv.cons rfl (Conv.row (aZ rfl) rfl rfl (m9 (fun _ => rfl)) (by first | rfl | (simp only [List.length_map, cN, cO]; done))) ?_))
    (hh : HCv h h' h h' := by repeat (first | exact HCv.nil | refine HCv.dead ?_ | refine HCv.live (Convs.same (aZ rfl)) rfl ?_ | refine HCv.live (Convs.same (aZ rfl)) (all_map (fun _ => rfl) _) ?_ | refine HCv.live (Convs.same (aZ rfl)) (fT (fun _ => rfl) _) ?_)) : Ghost N (aV n fr) h (aV n fr') h' := Ghost.conv hf hh
section
variable {P : Program} {fn : Func} {n N : Nat} {fr : List (Nat × V)} {h h' : Hp} {r a b c : V} {t u w : Nat}
theorem bW (hr : fn.results = #[.tmp t]) (σ : List Nat) (hx : cP n fr (.tmp t) = some a := by rfl) (hf : FLe yB (V.rn (sg σ h.length)) [(0, a)] [(0, r)] := by repeat (first | exact FLe.nil | refine FLe.same rfl ?_ | refine FLe.le rfl V.le_nil ?_ | refine FLe.le rfl V.le_row ?_ | refine FLe.le rfl (V.le_arr (fun _ => rfl)) ?_)) (hh : HLe (sg σ h.length) h σ h' := by repeat (first | exact HLe.nil | refine HLe.dead ?_ | refine HLe.live rfl V.les_nil rfl ?_ | refine HLe.live rfl (mC (fun _ => rfl) _) (all_map (fun _ => rfl) _) ?_ | refine HLe.live rfl (t8 (fun _ => rfl) _) (fT (fun _ => rfl) _) ?_ | refine HLe.live rfl (V.les_refl _ _) rfl ?_)) (hσ : σ.take N = List.range N := by rfl) (hlt : σ.all (fun b => Nat.blt b h.length) = true := by rfl) (hnd : ndB (lvs σ h') = true := by rfl) : aDA P fn N r h' .ret (aV n fr) h := bU (nH hr (iS hx)) (Ghost.rn σ hσ hlt hf hh hnd)
theorem vO (hr : fn.results = #[.tmp t, .tmp u]) (σ : List Nat) (hx : cP n fr (.tmp t) = some a := by rfl) (hy : cP n fr (.tmp u) = some b := by rfl) (hf : FLe yB (V.rn (sg σ h.length)) [(0, (.tup [a, b]))] [(0, r)] := by repeat (first | exact FLe.nil | refine FLe.same rfl ?_ | refine FLe.le rfl V.le_nil ?_ | refine FLe.le rfl V.le_row ?_ | refine FLe.le rfl (V.le_arr (fun _ => rfl)) ?_)) (hh : HLe (sg σ h.length) h σ h' := by repeat (first | exact HLe.nil | refine HLe.dead ?_ | refine HLe.live rfl V.les_nil rfl ?_ | refine HLe.live rfl (mC (fun _ => rfl) _) (all_map (fun _ => rfl) _) ?_ | refine HLe.live rfl (t8 (fun _ => rfl) _) (fT (fun _ => rfl) _) ?_ | refine HLe.live rfl (V.les_refl _ _) rfl ?_)) (hσ : σ.take N = List.range N := by rfl) (hlt : σ.all (fun b => Nat.blt b h.length) = true := by rfl) (hnd : ndB (lvs σ h') = true := by rfl) : aDA P fn N r h' .ret (aV n fr) h := bU (cL hr (iS hx) (iS hy)) (Ghost.rn σ hσ hlt hf hh hnd)
theorem zd3 (hr : fn.results = #[.tmp t, .tmp u, .tmp w]) (σ : List Nat) (hx : cP n fr (.tmp t) = some a := by rfl) (hy : cP n fr (.tmp u) = some b := by rfl) (hz : cP n fr (.tmp w) = some c := by rfl) (hf : FLe yB (V.rn (sg σ h.length)) [(0, (.tup [a, b, c]))] [(0, r)] := by repeat (first | exact FLe.nil | refine FLe.same rfl ?_ | refine FLe.le rfl V.le_nil ?_ | refine FLe.le rfl V.le_row ?_ | refine FLe.le rfl (V.le_arr (fun _ => rfl)) ?_)) (hh : HLe (sg σ h.length) h σ h' := by repeat (first | exact HLe.nil | refine HLe.dead ?_ | refine HLe.live rfl V.les_nil rfl ?_ | refine HLe.live rfl (mC (fun _ => rfl) _) (all_map (fun _ => rfl) _) ?_ | refine HLe.live rfl (t8 (fun _ => rfl) _) (fT (fun _ => rfl) _) ?_ | refine HLe.live rfl (V.les_refl _ _) rfl ?_)) (hσ : σ.take N = List.range N := by rfl) (hlt : σ.all (fun b => Nat.blt b h.length) = true := by rfl) (hnd : ndB (lvs σ h') = true := by rfl) : aDA P fn N r h' .ret (aV n fr) h := bU (j5 hr (iS hx) (iS hy) (iS hz)) (Ghost.rn σ hσ hlt hf hh hnd)
end
end Go.Vm
set_option linter.unusedVariables false
set_option linter.unusedSimpArgs false
set_option maxRecDepth 20000
set_option maxHeartbeats 1000000
namespace Go.Proofs.YtagblcjgjlihaaaDoor
open Go Go.Vm
structure aY where
  Tx : List Int
  Index : Int
abbrev fG (x : aY) : List V := (aX (eI .u8) x.Tx [(eI .u32 x.Index)])
abbrev jQ (x : aY) : V := .agg (fG x)
@[simp] theorem rM {f : Nat → Nat} (l : List aY) : V.rns f (l.flatMap fG) = l.flatMap fG := kA (fun _ => rfl) l
@[simp] theorem rI {f : Nat → Nat} (x : aY) : V.rns f (fG x) = fG x := rfl
structure aO where
  Prev : aY
  Sequence : Int
  Witness : List (List Int)
abbrev cH (x : aO) : List V := (aX (eI .u8) x.Prev.Tx [(eI .u32 x.Prev.Index), (eI .u32 x.Sequence), (.row none 1 (x.Witness.map (eL 1 (eI .u8))))])
abbrev aL (x : aO) : V := .agg (cH x)
@[simp] theorem vL {f : Nat → Nat} (l : List aO) : V.rns f (l.flatMap cH) = l.flatMap cH := kA (fun _ => rfl) l
@[simp] theorem uM {f : Nat → Nat} (x : aO) : V.rns f (cH x) = cH x := rfl
structure aK where
  Value : Int
  Script : List Int
abbrev eF (x : aK) : List V := [(eI .i64 x.Value), (.row none 1 (x.Script.map (eI .u8)))]
abbrev aM (x : aK) : V := .agg (eF x)
@[simp] theorem tX {f : Nat → Nat} (l : List aK) : V.rns f (l.flatMap eF) = l.flatMap eF := kA (fun _ => rfl) l
@[simp] theorem t3 {f : Nat → Nat} (x : aK) : V.rns f (eF x) = eF x := rfl
abbrev xR (e : aY × Bool) : List V := (aX (eI .u8) e.1.Tx [(eI .u32 e.1.Index), (eB e.2)])
def qV (a b : aY) : Bool := (qY a.Tx b.Tx ((a.Index == b.Index) && true))
@[simp] theorem aDC {f : Nat → Nat} (l : List (aY × Bool)) : V.rns f (l.flatMap xR) = l.flatMap xR := kA (fun _ => rfl) l
structure bD where
  Out : aY
  Output : aK
  Height : Int
  Coinbase : Bool
abbrev eW (x : bD) : List V := (aX (eI .u8) x.Out.Tx [(eI .u32 x.Out.Index), (eI .i64 x.Output.Value), (.row none 1 (x.Output.Script.map (eI .u8))), (eI .i64 x.Height), (eB x.Coinbase)])
abbrev eX (x : bD) : V := .agg (eW x)
@[simp] theorem vQ {f : Nat → Nat} (l : List bD) : V.rns f (l.flatMap eW) = l.flatMap eW := kA (fun _ => rfl) l
@[simp] theorem vX {f : Nat → Nat} (x : bD) : V.rns f (eW x) = eW x := rfl
structure bM where
  Code : Int
  Data : List Int
  M : Int
  N : Int
abbrev cR (x : bM) : List V := [(eI .i64 x.Code), (.row none 1 (x.Data.map (eI .u8))), (eI .i64 x.M), (eI .i64 x.N)]
abbrev z6 (x : bM) : V := .agg (cR x)
@[simp] theorem z9 {f : Nat → Nat} (l : List bM) : V.rns f (l.flatMap cR) = l.flatMap cR := kA (fun _ => rfl) l
@[simp] theorem zF {f : Nat → Nat} (x : bM) : V.rns f (cR x) = cR x := rfl
structure aS where
  outer : Bool
  taken : Bool
abbrev aQ (x : aS) : List V := [(eB x.outer), (eB x.taken)]
@[simp] theorem qR {f : Nat → Nat} (l : List aS) : V.rns f (l.flatMap aQ) = l.flatMap aQ := kA (fun _ => rfl) l
@[simp] theorem qS {f : Nat → Nat} (x : aS) : V.rns f (aQ x) = aQ x := rfl
def qX (N : Nat) (l0 : List Int) : Option (List Int) :=
  some l0
def i5 (N : Nat) (vn : Int) (dX : Int) : Nat → Int → (List Int) → Option (List Int)
  | 0, _, _ => none
  | m + 1, cG, bF =>
    if decide (cG < dX) then
      (shr .u64 vn (IntKind.i64.wrap (8 * cG))).bind fun x18 =>
      (dB bF cG).bind fun dD =>
      (i5 N vn dX m) (IntKind.i64.wrap (cG + 1)) (bF.set (Int.toNat cG) (IntKind.u8.wrap x18))
    else
      some bF
def nG (N : Nat) (vn : Int) (dX : Int) : Option (List Int) :=
  (mks 1 0 dX).bind fun x8 =>
  (i5 N vn dX N 0 x8).bind fun p2 =>
  qX N p2
def fR (N : Nat) (b : List Int) (vs : List Int) : Option (List Int) :=
  (mks 1 0 (IntKind.i64.wrap ((b.length : Int) + (vs.length : Int)))).bind fun b7 =>
  (kY 1 (b7.take 0) b).bind fun bO =>
  (kY 1 bO vs).bind fun x17 =>
  some x17
def fW (N : Nat) (b : List Int) (vn : Int) : Option (List Int) :=
  (nG N (IntKind.u64.wrap vn) 4).bind fun x8 =>
  (fR N b x8).bind fun x9 =>
  some x9
def rB (N : Nat) (b : List Int) (vn : Int) : Option (List Int) :=
  (nG N (IntKind.u64.wrap vn) 2).bind fun x8 =>
  (fR N b x8).bind fun x9 =>
  some x9
def j9 (N : Nat) (b : List Int) (vn : Int) : Option (List Int) :=
  (nG N vn 8).bind fun x7 =>
  (fR N b x7).bind fun x8 =>
  some x8
def iJ (N : Nat) (b : List Int) (vn : Int) : Option (List Int) :=
  if decide (vn < 253) then
    (fR N b [IntKind.u8.wrap vn]).bind fun fF =>
    some fF
  else
    if decide (vn < 65536) then
      (fR N b [253]).bind fun x18 =>
      (rB N x18 (IntKind.u16.wrap vn)).bind fun iH =>
      some iH
    else
      if decide (vn < 4294967296) then
        (fR N b [254]).bind fun x27 =>
        (fW N x27 (IntKind.u32.wrap vn)).bind fun jG =>
        some jG
      else
        (fR N b [255]).bind fun gH =>
        (j9 N gH vn).bind fun x35 =>
        some x35
def pW (N : Nat) (b : List Int) (vh : List Int) : Option (List Int) :=
  (b9 32 vh).bind fun q =>
  (fR N b vh).bind fun x7 =>
  some x7
def wD (N : Nat) (r9 : List Int) (lD : Int) : Option (List Int) :=
  (b9 32 r9).bind fun q =>
  (pW N [] r9).bind fun x5 =>
  (fW N x5 lD).bind fun x8 =>
  some x8
def iX (N : Nat) (b : List Int) (vs : List Int) : Option (List Int) :=
  (iJ N b (IntKind.u64.wrap (vs.length : Int))).bind fun x9 =>
  (fR N x9 vs).bind fun b7 =>
  some b7
def aAb (N : Nat) (l0 : List Int) : Option (List Int) :=
  some l0
def vK (N : Nat) (aB : List aO) (x79 : Int) (rec : Int → (List Int) → Option (List Int)) (nM : List Int) : Option (List Int) :=
  rec (IntKind.i64.wrap (x79 + 1)) nM
def kJ (N : Nat) (aB : List aO) (x79 : Int) (x81 : aO) : Nat → Int → (List Int) → Option (List Int)
  | 0, _, _ => none
  | m + 1, x93, i9 =>
    if decide (x93 < (x81.Witness.length : Int)) then
      (dB x81.Witness x93).bind fun x95 =>
      (iX N [] x95).bind fun x99 =>
      (kY 1 i9 x99).bind fun aIs =>
      (kJ N aB x79 x81 m) (IntKind.i64.wrap (x93 + 1)) aIs
    else
      some i9
def i8 (N : Nat) (aB : List aO) : Nat → Int → (List Int) → Option (List Int)
  | 0, _, _ => none
  | m + 1, x79, bF =>
    if decide (x79 < (aB.length : Int)) then
      (dB aB x79).bind fun x81 =>
      (iJ N [] (IntKind.u64.wrap (x81.Witness.length : Int))).bind fun x88 =>
      (kY 1 bF x88).bind fun x89 =>
      (kJ N aB x79 x81 N 0 x89).bind fun p6 =>
      vK N aB x79 (i8 N aB m) p6
    else
      some bF
def vN (N : Nat) (aC : Int) (aB : List aO) (aA : List aK) (aH : Int) (dI : Bool) (eJ : List Int) : Option (List Int) :=
  (fW N [] aH).bind fun x71 =>
  (kY 1 eJ x71).bind fun x72 =>
  if !dI then
    some x72
  else
    (i8 N aB N 0 x72).bind fun p4 =>
    aAb N p4
def j6 (N : Nat) (aC : Int) (aB : List aO) (aA : List aK) (aH : Int) (dI : Bool) : Nat → Int → (List Int) → Option (List Int)
  | 0, _, _ => none
  | m + 1, x52, l1_2 =>
    if decide (x52 < (aA.length : Int)) then
      (dB aA x52).bind fun x54 =>
      (j9 N [] (IntKind.u64.wrap x54.Value)).bind fun x60 =>
      (kY 1 l1_2 x60).bind fun x61 =>
      (iX N [] x54.Script).bind fun x65 =>
      (kY 1 x61 x65).bind fun x66 =>
      (j6 N aC aB aA aH dI m) (IntKind.i64.wrap (x52 + 1)) x66
    else
      some l1_2
def vC (N : Nat) (aC : Int) (aB : List aO) (aA : List aK) (aH : Int) (dI : Bool) (l1 : List Int) : Option (List Int) :=
  (iJ N [] (IntKind.u64.wrap (aA.length : Int))).bind fun x47 =>
  (kY 1 l1 x47).bind fun x48 =>
  (j6 N aC aB aA aH dI N 0 x48).bind fun p7 =>
  vN N aC aB aA aH dI p7
def kM (N : Nat) (aC : Int) (aB : List aO) (aA : List aK) (aH : Int) (dI : Bool) : Nat → Int → (List Int) → Option (List Int)
  | 0, _, _ => none
  | m + 1, x27, l1_3 =>
    if decide (x27 < (aB.length : Int)) then
      (dB aB x27).bind fun x29 =>
      (wD N x29.Prev.Tx x29.Prev.Index).bind fun gO =>
      (kY 1 l1_3 gO).bind fun x35 =>
      (fW N [] x29.Sequence).bind fun x39 =>
      (kY 1 x35 x39).bind fun x40 =>
      (kM N aC aB aA aH dI m) (IntKind.i64.wrap (x27 + 1)) x40
    else
      some l1_3
def uC (N : Nat) (aC : Int) (aB : List aO) (aA : List aK) (aH : Int) (dI : Bool) : Option (List Int) :=
  (fW N [] aC).bind fun x16 =>
  (iJ N [] (IntKind.u64.wrap (aB.length : Int))).bind fun d8 =>
  (kY 1 x16 d8).bind fun kX =>
  (kM N aC aB aA aH dI N 0 kX).bind fun p8 =>
  vC N aC aB aA aH dI p8
def yG (N : Nat) (aC : Int) (aB : List aO) (aA : List aK) (aH : Int) : Option Bool :=
  (uC N aC aB aA aH true).bind fun x60 =>
  some (decide ((x60.length : Int) ≤ 20000))
def yE (N : Nat) (aC : Int) (aB : List aO) (aA : List aK) (aH : Int) (x39 : Int) (rec : Int → Option (LR (Unit) (Bool))) : Option (LR (Unit) (Bool)) :=
  rec (IntKind.i64.wrap (x39 + 1))
def mH (N : Nat) (aC : Int) (aB : List aO) (aA : List aK) (aH : Int) (x39 : Int) (x41 : aO) : Nat → Int → Option (LR (Unit) (Bool))
  | 0, _ => none
  | m + 1, x50 =>
    if decide (x50 < (x41.Witness.length : Int)) then
      (dB x41.Witness x50).bind fun x52 =>
      if decide (520 < (x52.length : Int)) then
        some (.ret false)
      else
        (mH N aC aB aA aH x39 x41 m) (IntKind.i64.wrap (x50 + 1))
    else
      some (.brk ())
def mJ (N : Nat) (aC : Int) (aB : List aO) (aA : List aK) (aH : Int) : Nat → Int → Option (LR (Unit) (Bool))
  | 0, _ => none
  | m + 1, x39 =>
    if decide (x39 < (aB.length : Int)) then
      (dB aB x39).bind fun x41 =>
      if decide (32 < (x41.Witness.length : Int)) then
        some (.ret false)
      else
        (mH N aC aB aA aH x39 x41 N 0).bind fun q => match q with
          | .ret v => some (.ret v)
          | .brk p6 =>
            yE N aC aB aA aH x39 (mJ N aC aB aA aH m)
    else
      some (.brk ())
def yK (N : Nat) (aC : Int) (aB : List aO) (aA : List aK) (aH : Int) : Option Bool :=
  (mJ N aC aB aA aH N 0).bind fun q => match q with
    | .ret v => some v
    | .brk p4 =>
      yG N aC aB aA aH
def uW (N : Nat) (aC : Int) (aB : List aO) (aA : List aK) (aH : Int) (d8 : Int) (rec : Int → Option (LR (Unit) (Bool))) (gO : Bool) : Option (LR (Unit) (Bool)) :=
  if gO then
    some (.ret false)
  else
    rec (IntKind.i64.wrap (d8 + 1))
def lH (N : Nat) (aC : Int) (aB : List aO) (aA : List aK) (aH : Int) : Nat → Int → Option (LR (Unit) (Bool))
  | 0, _ => none
  | m + 1, d8 =>
    if decide (d8 < (aA.length : Int)) then
      (dB aA d8).bind fun fE =>
      if decide (fE.Value < 0) then
        uW N aC aB aA aH d8 (lH N aC aB aA aH m) true
      else
        uW N aC aB aA aH d8 (lH N aC aB aA aH m) (decide (520 < (fE.Script.length : Int)))
    else
      some (.brk ())
def uI (N : Nat) (aC : Int) (aB : List aO) (aA : List aK) (aH : Int) (x18 : Bool) : Option Bool :=
  if x18 then
    some false
  else
    (lH N aC aB aA aH N 0).bind fun q => match q with
      | .ret v => some v
      | .brk p7 =>
        yK N aC aB aA aH
def y5 (N : Nat) (aC : Int) (aB : List aO) (aA : List aK) (aH : Int) : Option Bool :=
  if decide (64 < (aB.length : Int)) then
    uI N aC aB aA aH true
  else
    uI N aC aB aA aH (decide (64 < (aA.length : Int)))
def aAJ (N : Nat) : Option Bool :=
  some true
def oG (N : Nat) (l : List aK) : Nat → Int → Int → Option (LR (Unit) (Bool))
  | 0, _, _ => none
  | m + 1, sum, x8 =>
    if decide (x8 < (l.length : Int)) then
      (dB l x8).bind fun cG =>
      if decide ((IntKind.i64.wrap (2100000000000000 - sum)) < cG.Value) then
        some (.ret false)
      else
        (oG N l m) (IntKind.i64.wrap (sum + cG.Value)) (IntKind.i64.wrap (x8 + 1))
    else
      some (.brk ())
def zD (N : Nat) (l : List aK) : Option Bool :=
  (oG N l N 0 0).bind fun q => match q with
    | .ret v => some v
    | .brk p2 =>
      aAJ N
def aFg (N : Nat) (r9 : List Int) (lD : Int) : Option Bool :=
  some (qY r9 (List.replicate 32 0) ((lD == 4294967295) && true))
def sN (N : Nat) (x2 : Bool) : Option Bool :=
  some x2
def qL (N : Nat) (aC : Int) (aB : List aO) (aA : List aK) (aH : Int) : Option Bool :=
  if (aB.length : Int) == 1 then
    (dB aB 0).bind fun cG =>
    (aFg N cG.Prev.Tx cG.Prev.Index).bind fun cJ =>
    sN N cJ
  else
    sN N false
def xA (N : Nat) (x46 : Bool) : Option Int :=
  if x46 then
    some 92
  else
    some 0
def wW (N : Nat) (aC : Int) (aB : List aO) (aA : List aK) (aH : Int) (l1 : List (aY × Bool)) : Option Int :=
  if zU qV l1 (aY.mk (List.replicate 32 0) 4294967295) false then
    (qL N aC aB aA aH).bind fun x44 =>
    xA N (!x44)
  else
    xA N false
def oM (N : Nat) (aC : Int) (aB : List aO) (aA : List aK) (aH : Int) : Nat → Int → (List (aY × Bool)) → Option (LR ((List (aY × Bool))) (Int))
  | 0, _, _ => none
  | m + 1, x27, eJ =>
    if decide (x27 < (aB.length : Int)) then
      (dB aB x27).bind fun x29 =>
      if zU qV eJ x29.Prev false then
        some (.ret 91)
      else
        (oM N aC aB aA aH m) (IntKind.i64.wrap (x27 + 1)) (aCo qV eJ x29.Prev true)
    else
      some (.brk eJ)
def tF (N : Nat) (aC : Int) (aB : List aO) (aA : List aK) (aH : Int) (x18 : Bool) : Option Int :=
  if x18 then
    some 93
  else
    (zD N aA).bind fun iH =>
    if !iH then
      some 90
    else
      (oM N aC aB aA aH N 0 []).bind fun q => match q with
        | .ret v => some v
        | .brk p4 =>
          wW N aC aB aA aH p4
def zZ (N : Nat) (aC : Int) (aB : List aO) (aA : List aK) (aH : Int) : Option Int :=
  (y5 N aC aB aA aH).bind fun x7 =>
  if !x7 then
    some 4
  else
    if (aB.length : Int) == 0 then
      tF N aC aB aA aH true
    else
      tF N aC aB aA aH ((aA.length : Int) == 0)
def vG (N : Nat) (aEe : Int) : Option (Int × Bool) :=
  some (aEe, true)
def r7 (N : Nat) (l : List bD) (k5 : Int) (x9 : Int) (b7 : bD) (rec : Int → Int → Option (LR (Int) (Int × Bool))) (fE : Bool) : Option (LR (Int) (Int × Bool)) :=
  if fE then
    some (.ret (0, false))
  else
    rec (IntKind.i64.wrap (k5 + b7.Output.Value)) (IntKind.i64.wrap (x9 + 1))
def kD (N : Nat) (l : List bD) : Nat → Int → Int → Option (LR (Int) (Int × Bool))
  | 0, _, _ => none
  | m + 1, k5, x9 =>
    if decide (x9 < (l.length : Int)) then
      (dB l x9).bind fun b7 =>
      if decide (b7.Output.Value < 0) then
        r7 N l k5 x9 b7 (kD N l m) true
      else
        r7 N l k5 x9 b7 (kD N l m) (decide ((IntKind.i64.wrap (2100000000000000 - k5)) < b7.Output.Value))
    else
      some (.brk k5)
def aAt (N : Nat) (l : List bD) : Option (Int × Bool) :=
  (kD N l N 0 0).bind fun q => match q with
    | .ret v => some v
    | .brk p2 =>
      vG N p2
def vJ (N : Nat) (fee : Int) : Option (Int × Int) :=
  if decide (fee < 0) then
    some (0, 100)
  else
    some (fee, 0)
def lS (N : Nat) (aA : List aK) : Nat → Int → Int → Option Int
  | 0, _, _ => none
  | m + 1, fee_1, x51 =>
    if decide (x51 < (aA.length : Int)) then
      (dB aA x51).bind fun x53 =>
      (lS N aA m) (IntKind.i64.wrap (fee_1 - x53.Value)) (IntKind.i64.wrap (x51 + 1))
    else
      some fee_1
def vD (N : Nat) (aC : Int) (aB : List aO) (aA : List aK) (aH : Int) (l : List bD) : Option (Int × Int) :=
  (aAt N l).bind fun x43 =>
  if !x43.2 then
    some (0, 90)
  else
    (lS N aA N x43.1 0).bind fun p3 =>
    vJ N p3
def lQ (N : Nat) (aC : Int) (aB : List aO) (aA : List aK) (aH : Int) (l : List bD) : Nat → Int → Option (LR (Unit) (Int × Int))
  | 0, _ => none
  | m + 1, x26 =>
    if decide (x26 < (l.length : Int)) then
      (dB l x26).bind fun x29 =>
      (dB aB x26).bind fun x36 =>
      if !(qY x29.Out.Tx x36.Prev.Tx ((x29.Out.Index == x36.Prev.Index) && true)) then
        some (.ret (0, 101))
      else
        (lQ N aC aB aA aH l m) (IntKind.i64.wrap (x26 + 1))
    else
      some (.brk ())
def r5 (N : Nat) (aC : Int) (aB : List aO) (aA : List aK) (aH : Int) (l : List bD) : Option (Int × Int) :=
  (zZ N aC aB aA aH).bind fun bO =>
  if bO != 0 then
    some (0, bO)
  else
    if (l.length : Int) != (aB.length : Int) then
      some (0, 8)
    else
      (lQ N aC aB aA aH l N 0).bind fun q => match q with
        | .ret v => some v
        | .brk p4 =>
          vD N aC aB aA aH l
def qA (N : Nat) (x0 : Bool) : Option Bool :=
  some x0
def yT (N : Nat) : Option Bool :=
  (r5 N 0 [(aO.mk (aY.mk (List.replicate 32 0) 1) 0 []), (aO.mk (aY.mk (List.replicate 32 0) 2) 0 [])] [(aK.mk 10 [])] 0 [(bD.mk (aY.mk (List.replicate 32 0) 1) (aK.mk 5 []) 0 false), (bD.mk (aY.mk (List.replicate 32 0) 2) (aK.mk 7 []) 0 false)]).bind fun x29 =>
  (dB [(aK.mk 10 [])] 0).bind fun gO =>
  (r5 N 0 [(aO.mk (aY.mk (List.replicate 32 0) 1) 0 []), (aO.mk (aY.mk (List.replicate 32 0) 2) 0 [])] ([(aK.mk 10 [])].set (Int.toNat 0) (aK.mk 13 gO.Script)) 0 [(bD.mk (aY.mk (List.replicate 32 0) 1) (aK.mk 5 []) 0 false), (bD.mk (aY.mk (List.replicate 32 0) 2) (aK.mk 7 []) 0 false)]).bind fun x39 =>
  if x29.2 == 0 then
    if x29.1 == 2 then
      qA N (x39.2 == 100)
    else
      qA N false
  else
    qA N false
def xW (N : Nat) : Option Bool :=
  some true
def kT (N : Nat) (l : List (List Int)) (vm : Int) : Nat → Int → Option (LR (Unit) (Bool))
  | 0, _ => none
  | m + 1, x15 =>
    if decide (x15 < (l.length : Int)) then
      (dB l x15).bind fun x17 =>
      if decide (vm < (x17.length : Int)) then
        some (.ret false)
      else
        (kT N l vm m) (IntKind.i64.wrap (x15 + 1))
    else
      some (.brk ())
def vI (N : Nat) (l : List (List Int)) (vn : Int) (vm : Int) : Option Bool :=
  if decide (vn < (l.length : Int)) then
    some false
  else
    (kT N l vm N 0).bind fun q => match q with
      | .ret v => some v
      | .brk p2 =>
        xW N
def aBJ (N : Nat) : Option Bool :=
  some true
def n6 (N : Nat) (aA : List aK) : Nat → Int → Option (LR (Unit) (Bool))
  | 0, _ => none
  | m + 1, vF =>
    if decide (vF < (aA.length : Int)) then
      (dB aA vF).bind fun gO =>
      if decide (600 < (gO.Script.length : Int)) then
        some (.ret false)
      else
        (n6 N aA m) (IntKind.i64.wrap (vF + 1))
    else
      some (.brk ())
def yD (N : Nat) (aC : Int) (aB : List aO) (aA : List aK) (aH : Int) : Option Bool :=
  (n6 N aA N 0).bind fun q => match q with
    | .ret v => some v
    | .brk p4 =>
      aBJ N
def nV (N : Nat) (aC : Int) (aB : List aO) (aA : List aK) (aH : Int) : Nat → Int → Option (LR (Unit) (Bool))
  | 0, _ => none
  | m + 1, dD =>
    if decide (dD < (aB.length : Int)) then
      (dB aB dD).bind fun d8 =>
      (vI N d8.Witness 40 600).bind fun x26 =>
      if !x26 then
        some (.ret false)
      else
        (nV N aC aB aA aH m) (IntKind.i64.wrap (dD + 1))
    else
      some (.brk ())
def uU (N : Nat) (aC : Int) (aB : List aO) (aA : List aK) (aH : Int) (x16 : Bool) : Option Bool :=
  if x16 then
    some false
  else
    (nV N aC aB aA aH N 0).bind fun q => match q with
      | .ret v => some v
      | .brk p5 =>
        yD N aC aB aA aH
def aA9 (N : Nat) (aC : Int) (aB : List aO) (aA : List aK) (aH : Int) : Option Bool :=
  if decide (70 < (aB.length : Int)) then
    uU N aC aB aA aH true
  else
    uU N aC aB aA aH (decide (70 < (aA.length : Int)))
def xV (N : Nat) : Option Bool :=
  some true
def kO (N : Nat) (l : List bD) : Nat → Int → Option (LR (Unit) (Bool))
  | 0, _ => none
  | m + 1, cJ =>
    if decide (cJ < (l.length : Int)) then
      (dB l cJ).bind fun x15 =>
      if decide (600 < (x15.Output.Script.length : Int)) then
        some (.ret false)
      else
        (kO N l m) (IntKind.i64.wrap (cJ + 1))
    else
      some (.brk ())
def uR (N : Nat) (l : List bD) (vn : Int) : Option Bool :=
  if decide (vn < (l.length : Int)) then
    some false
  else
    (kO N l N 0).bind fun q => match q with
      | .ret v => some v
      | .brk p2 =>
        xV N
def aAV (N : Nat) : Option Bool :=
  some true
def mP (N : Nat) (aB : List aO) : Nat → Int → Option (LR (Unit) (Bool))
  | 0, _ => none
  | m + 1, x15 =>
    if decide (x15 < (aB.length : Int)) then
      (dB aB x15).bind fun x17 =>
      if x17.Sequence != 4294967295 then
        some (.ret false)
      else
        (mP N aB m) (IntKind.i64.wrap (x15 + 1))
    else
      some (.brk ())
def aAa (N : Nat) (aC : Int) (aB : List aO) (aA : List aK) (aH : Int) (bR : Int) : Option Bool :=
  if decide ((IntKind.i64.wrap aH) ≤ bR) then
    some true
  else
    (mP N aB N 0).bind fun q => match q with
      | .ret v => some v
      | .brk p2 =>
        aAV N
def aAu (N : Nat) (aC : Int) (aB : List aO) (aA : List aK) (aH : Int) (dI : Bool) : Option ((List Int) × Int) :=
  (y5 N aC aB aA aH).bind fun x7 =>
  if !x7 then
    some ([], 4)
  else
    (uC N aC aB aA aH dI).bind fun b7 =>
    some (b7, 0)
def uY (N : Nat) (aC : Int) (aB : List aO) (aA : List aK) (aH : Int) : Option Bool :=
  (aAu N aC aB aA aH true).bind fun x7 =>
  some (x7.2 == 0)
def lW (N : Nat) (vn : Int) : Option (List Int) :=
  (fW N [] vn).bind fun x4 =>
  some x4
def zM (N : Nat) (l0 : List Int) : Option (List Int) :=
  some l0
def lP (N : Nat) (parts : List (List Int)) : Nat → Int → (List Int) → Option (List Int)
  | 0, _, _ => none
  | m + 1, x8, bF =>
    if decide (x8 < (parts.length : Int)) then
      (dB parts x8).bind fun cG =>
      (kY 1 bF cG).bind fun bO =>
      (lP N parts m) (IntKind.i64.wrap (x8 + 1)) bO
    else
      some bF
def rL (N : Nat) (parts : List (List Int)) : Option (List Int) :=
  (lP N parts N 0 []).bind fun p2 =>
  zM N p2
def pA (N : Nat) (bJ : Int) (bA : List Int) : Option (List Int) :=
  (j9 N [] (IntKind.u64.wrap bJ)).bind fun x6 =>
  (iX N [] bA).bind fun x9 =>
  (rL N [x6, x9]).bind fun b7 =>
  some b7
def aBD (N : Nat) (l0 : List Int) : Option (List Int) :=
  some l0
def n7 (N : Nat) (vn : Int) : Nat → Int → (List Int) → Option (List Int)
  | 0, _, _ => none
  | m + 1, x18, bF =>
    if decide (x18 < 8) then
      (shr .u64 (IntKind.u64.wrap (8 * vn)) (IntKind.i64.wrap (56 - (IntKind.i64.wrap (8 * x18))))).bind fun x27 =>
      (kY 1 bF [IntKind.u8.wrap x27]).bind fun jG =>
      (n7 N vn m) (IntKind.i64.wrap (x18 + 1)) jG
    else
      some bF
def aA3 (N : Nat) (vn : Int) : Option (List Int) :=
  (mkl 1 0 (IntKind.u64.wrap (1 + (Int.tmod (IntKind.u64.wrap (64 - (Int.tmod (IntKind.u64.wrap (vn + 9)) 64))) 64))) (IntKind.u64.wrap (9 + (Int.tmod (IntKind.u64.wrap (64 - (Int.tmod (IntKind.u64.wrap (vn + 9)) 64))) 64)))).bind fun x15 =>
  (dB x15 0).bind fun x17 =>
  (n7 N vn N 0 (x15.set (Int.toNat 0) 128)).bind fun p2 =>
  aBD N p2
def aBe (N : Nat) (l0 : List Int) : Option (List Int) :=
  some l0
def nY (N : Nat) (parts : List (List Int)) : Nat → Int → (List Int) → Option (List Int)
  | 0, _, _ => none
  | m + 1, x8, bF =>
    if decide (x8 < (parts.length : Int)) then
      (dB parts x8).bind fun cG =>
      (kY 1 bF cG).bind fun bO =>
      (nY N parts m) (IntKind.i64.wrap (x8 + 1)) bO
    else
      some bF
def y4 (N : Nat) (parts : List (List Int)) : Option (List Int) :=
  (nY N parts N 0 []).bind fun p2 =>
  aBe N p2
def lI (N : Nat) (x : Int) (k : Int) : Option Int :=
  (shl .u32 x (bits .and .u64 (IntKind.u64.wrap k) 31)).bind fun b7 =>
  (shr .u32 x (IntKind.u64.wrap (32 - (bits .and .u64 (IntKind.u64.wrap k) 31)))).bind fun x15 =>
  some (bits .or .u32 b7 x15)
def dY (N : Nat) (x : Int) (vn : Int) : Option Int :=
  (lI N x (IntKind.i64.wrap (0 - vn))).bind fun x8 =>
  some x8
def q8 (N : Nat) (eJ : List Int) : Option (List Int) :=
  (b9 64 eJ).bind fun q =>
  some eJ
def kL (N : Nat) : Nat → Int → (List Int) → Option (List Int)
  | 0, _, _ => none
  | m + 1, vi, l1_2 =>
    if decide (vi < 64) then
      (cX 64 l1_2 (IntKind.i64.wrap (vi - 15))).bind fun x37 =>
      (dY N x37 7).bind fun x39 =>
      (dY N x37 18).bind fun x44 =>
      (shr .u32 x37 3).bind fun x50 =>
      (cX 64 l1_2 (IntKind.i64.wrap (vi - 2))).bind fun x54 =>
      (dY N x54 17).bind fun x56 =>
      (dY N x54 19).bind fun x61 =>
      (shr .u32 x54 10).bind fun x67 =>
      (cX 64 l1_2 (IntKind.i64.wrap (vi - 16))).bind fun x72 =>
      (cX 64 l1_2 (IntKind.i64.wrap (vi - 7))).bind fun x78 =>
      (cX 64 l1_2 vi).bind fun x83 =>
      (kL N m) (IntKind.i64.wrap (vi + 1)) (l1_2.set (Int.toNat vi) (IntKind.u32.wrap ((IntKind.u32.wrap ((IntKind.u32.wrap (x72 + (bits .xor .u32 (bits .xor .u32 x39 x44) x50))) + x78)) + (bits .xor .u32 (bits .xor .u32 x56 x61) x67))))
    else
      some l1_2
def q5 (N : Nat) (l1 : List Int) : Option (List Int) :=
  (kL N N 16 l1).bind fun p3 =>
  q8 N p3
def qW (N : Nat) (block : List Int) (x9 : Int) (rec : Int → (List Int) → Option (List Int)) (nC : List Int) : Option (List Int) :=
  rec (IntKind.i64.wrap (x9 + 1)) nC
def eK (N : Nat) (block : List Int) (x9 : Int) : Nat → Int → (List Int) → Option (List Int)
  | 0, _, _ => none
  | m + 1, fF, eZ =>
    if decide (fF < 4) then
      (cX 64 eZ x9).bind fun x17 =>
      (shl .u32 x17 8).bind fun x19 =>
      (cX 64 block (IntKind.i64.wrap ((IntKind.i64.wrap (4 * x9)) + fF))).bind fun fE =>
      (eK N block x9 m) (IntKind.i64.wrap (fF + 1)) (eZ.set (Int.toNat x9) (bits .or .u32 x19 (IntKind.u32.wrap fE)))
    else
      some eZ
def fZ (N : Nat) (block : List Int) : Nat → Int → (List Int) → Option (List Int)
  | 0, _, _ => none
  | m + 1, x9, l2 =>
    if decide (x9 < 16) then
      (eK N block x9 N 0 l2).bind fun p6 =>
      qW N block x9 (fZ N block m) p6
    else
      some l2
def rS (N : Nat) (block : List Int) : Option (List Int) :=
  (fZ N block N 0 (List.replicate 64 0)).bind fun p4 =>
  q5 N p4
def rA (N : Nat) (iD : List Int) (va : Int) (b : Int) (c : Int) (d : Int) (ve : Int) (f : Int) (g : Int) (vh : Int) : Option (List Int) :=
  (cX 8 iD 0).bind fun x98 =>
  (cX 8 iD 1).bind fun u4 =>
  (cX 8 iD 2).bind fun nO =>
  (cX 8 iD 3).bind fun aDb =>
  (cX 8 iD 4).bind fun uV =>
  (cX 8 iD 5).bind fun aDd =>
  (cX 8 iD 6).bind fun aDo =>
  (cX 8 iD 7).bind fun aDy =>
  some [IntKind.u32.wrap (x98 + va), IntKind.u32.wrap (u4 + b), IntKind.u32.wrap (nO + c), IntKind.u32.wrap (aDb + d), IntKind.u32.wrap (uV + ve), IntKind.u32.wrap (aDd + f), IntKind.u32.wrap (aDo + g), IntKind.u32.wrap (aDy + vh)]
def kF (N : Nat) (iD : List Int) (x18 : (List Int)) : Nat → Int → Int → Int → Int → Int → Int → Int → Int → Int → Option (Int × Int × Int × Int × Int × Int × Int × Int)
  | 0, _, _, _, _, _, _, _, _, _ => none
  | m + 1, va_1, b_1, c_1, d_1, ve_1, f_1, g_1, vh_1, x35 =>
    if decide (x35 < 64) then
      (dY N ve_1 6).bind fun x40 =>
      (dY N ve_1 11).bind fun x42 =>
      (dY N ve_1 25).bind fun x45 =>
      (cX 64 aEH x35).bind fun x58 =>
      (cX 64 x18 x35).bind fun x62 =>
      (dY N va_1 2).bind fun x66 =>
      (dY N va_1 13).bind fun x68 =>
      (dY N va_1 22).bind fun x71 =>
      (kF N iD x18 m) (IntKind.u32.wrap ((IntKind.u32.wrap ((IntKind.u32.wrap ((IntKind.u32.wrap ((IntKind.u32.wrap (vh_1 + (bits .xor .u32 (bits .xor .u32 x40 x42) x45))) + (bits .xor .u32 (bits .and .u32 ve_1 f_1) (bits .and .u32 (bits .xor .u32 (IntKind.max .u32) ve_1) g_1)))) + x58)) + x62)) + (IntKind.u32.wrap ((bits .xor .u32 (bits .xor .u32 x66 x68) x71) + (bits .xor .u32 (bits .xor .u32 (bits .and .u32 va_1 b_1) (bits .and .u32 va_1 c_1)) (bits .and .u32 b_1 c_1)))))) va_1 b_1 c_1 (IntKind.u32.wrap (d_1 + (IntKind.u32.wrap ((IntKind.u32.wrap ((IntKind.u32.wrap ((IntKind.u32.wrap (vh_1 + (bits .xor .u32 (bits .xor .u32 x40 x42) x45))) + (bits .xor .u32 (bits .and .u32 ve_1 f_1) (bits .and .u32 (bits .xor .u32 (IntKind.max .u32) ve_1) g_1)))) + x58)) + x62)))) ve_1 f_1 g_1 (IntKind.i64.wrap (x35 + 1))
    else
      some (va_1, b_1, c_1, d_1, ve_1, f_1, g_1, vh_1)
def nF (N : Nat) (iD : List Int) (block : List Int) : Option (List Int) :=
  (b9 64 block).bind fun q =>
  (rS N block).bind fun x18 =>
  (b9 64 x18).bind fun q_1 =>
  (cX 8 iD 0).bind fun x19 =>
  (cX 8 iD 1).bind fun iH =>
  (cX 8 iD 2).bind fun kX =>
  (cX 8 iD 3).bind fun x25 =>
  (cX 8 iD 4).bind fun x27 =>
  (cX 8 iD 5).bind fun x29 =>
  (cX 8 iD 6).bind fun gX =>
  (cX 8 iD 7).bind fun gH =>
  (kF N iD x18 N x19 iH kX x25 x27 x29 gX gH 0).bind fun p2 =>
  rA N iD p2.1 p2.2.1 p2.2.2.1 p2.2.2.2.1 p2.2.2.2.2.1 p2.2.2.2.2.2.1 p2.2.2.2.2.2.2.1 p2.2.2.2.2.2.2.2
def yO (N : Nat) (eJ : List Int) : Option (List Int) :=
  (b9 32 eJ).bind fun q =>
  some eJ
def pX (N : Nat) (l1 : List Int) : Nat → Int → (List Int) → Option (List Int)
  | 0, _, _ => none
  | m + 1, gX, l2 =>
    if decide (gX < 32) then
      (cX 8 l1 (IntKind.i64.wrap (Int.tdiv gX 4))).bind fun x37 =>
      (shr .u32 x37 (IntKind.i64.wrap (24 - (IntKind.i64.wrap ((Int.tmod gX 4) * 8))))).bind fun x43 =>
      (cX 32 l2 gX).bind fun x45 =>
      (pX N l1 m) (IntKind.i64.wrap (gX + 1)) (l2.set (Int.toNat gX) (IntKind.u8.wrap x43))
    else
      some l2
def yC (N : Nat) (l1 : List Int) : Option (List Int) :=
  (pX N l1 N 0 (List.replicate 32 0)).bind fun p3 =>
  yO N p3
def pH (N : Nat) (bO : (List Int)) : Nat → Int → (List Int) → Option (List Int)
  | 0, _, _ => none
  | m + 1, x19, l1_2 =>
    if decide (x19 < (IntKind.i64.wrap (Int.tdiv (bO.length : Int) 64))) then
      (b9 8 l1_2).bind fun q_1 =>
      (sub bO (IntKind.i64.wrap (64 * x19)) (bO.length : Int)).bind fun x26 =>
      (sY 64 x26).bind fun x27 =>
      (nF N l1_2 x27).bind fun x29 =>
      (b9 8 x29).bind fun q_2 =>
      (pH N bO m) (IntKind.i64.wrap (x19 + 1)) x29
    else
      some l1_2
def t9 (N : Nat) (b : List Int) : Option (List Int) :=
  (aA3 N (IntKind.u64.wrap (b.length : Int))).bind fun fF =>
  (y4 N [b, fF]).bind fun bO =>
  (pH N bO N 0 xP).bind fun p4 =>
  yC N p4
def mX (N : Nat) (b : List Int) : Option (List Int) :=
  (t9 N b).bind fun x5 =>
  (b9 32 x5).bind fun q =>
  some x5
def sJ (N : Nat) (tag : ByteArray) (b : List Int) : Option (List Int) :=
  (stb tag).bind fun x7 =>
  (t9 N x7).bind fun x8 =>
  (b9 32 x8).bind fun q =>
  (y4 N [x8, x8, b]).bind fun cJ =>
  (t9 N cJ).bind fun bO =>
  (b9 32 bO).bind fun q_1 =>
  some bO
def pY (N : Nat) (aC : Int) (aB : List aO) (aA : List aK) (aH : Int) (vi : Int) (bJ : Int) (bA : List Int) (l3 : List Int) (l4 : List Int) (l5 : List Int) : Option ((List Int) × Int) :=
  (lW N aC).bind fun x72 =>
  (mX N l3).bind fun x74 =>
  (mX N l4).bind fun x76 =>
  (mX N l5).bind fun x78 =>
  (lW N aH).bind fun x81 =>
  (lW N (IntKind.u32.wrap vi)).bind fun x84 =>
  (pA N bJ bA).bind fun x86 =>
  (rL N [x72, x74, x76, x78, x81, x84, x86]).bind fun x88 =>
  (sJ N (⟨#[108, 105, 103, 104, 116, 99, 108, 105, 101, 110, 116, 47, 115, 112, 101, 110, 100]⟩) x88).bind fun x89 =>
  (b9 32 x89).bind fun q =>
  some (x89, 0)
def gM (N : Nat) (aC : Int) (aB : List aO) (aA : List aK) (aH : Int) (vi : Int) (bJ : Int) (bA : List Int) (l3 : List Int) (l4 : List Int) : Nat → Int → (List Int) → Option (List Int)
  | 0, _, _ => none
  | m + 1, x61, l5_1 =>
    if decide (x61 < (aA.length : Int)) then
      (dB aA x61).bind fun x63 =>
      (pA N x63.Value x63.Script).bind fun x67 =>
      (kY 1 l5_1 x67).bind fun x68 =>
      (gM N aC aB aA aH vi bJ bA l3 l4 m) (IntKind.i64.wrap (x61 + 1)) x68
    else
      some l5_1
def pP (N : Nat) (aC : Int) (aB : List aO) (aA : List aK) (aH : Int) (vi : Int) (bJ : Int) (bA : List Int) (l3 : List Int) (l4 : List Int) : Option ((List Int) × Int) :=
  (gM N aC aB aA aH vi bJ bA l3 l4 N 0 []).bind fun p5 =>
  pY N aC aB aA aH vi bJ bA l3 l4 p5
def jI (N : Nat) (aC : Int) (aB : List aO) (aA : List aK) (aH : Int) (vi : Int) (bJ : Int) (bA : List Int) : Nat → Int → (List Int) → (List Int) → Option ((List Int) × (List Int))
  | 0, _, _, _ => none
  | m + 1, x43, i3, s8 =>
    if decide (x43 < (aB.length : Int)) then
      (dB aB x43).bind fun x45 =>
      (wD N x45.Prev.Tx x45.Prev.Index).bind fun x50 =>
      (kY 1 i3 x50).bind fun x51 =>
      (lW N x45.Sequence).bind fun x55 =>
      (kY 1 s8 x55).bind fun x56 =>
      (jI N aC aB aA aH vi bJ bA m) (IntKind.i64.wrap (x43 + 1)) x51 x56
    else
      some (i3, s8)
def k4 (N : Nat) (aC : Int) (aB : List aO) (aA : List aK) (aH : Int) (vi : Int) (bJ : Int) (bA : List Int) (x38 : Bool) : Option ((List Int) × Int) :=
  if x38 then
    some ([0, 0, 0, 0, 0, 0, 0, 0, 0, 0, 0, 0, 0, 0, 0, 0, 0, 0, 0, 0, 0, 0, 0, 0, 0, 0, 0, 0, 0, 0, 0, 0], 5)
  else
    (jI N aC aB aA aH vi bJ bA N 0 [] []).bind fun p6 =>
    pP N aC aB aA aH vi bJ bA p6.1 p6.2
def k7 (N : Nat) (aC : Int) (aB : List aO) (aA : List aK) (aH : Int) (vi : Int) (bJ : Int) (bA : List Int) (x28 : Bool) : Option ((List Int) × Int) :=
  if x28 then
    some ([0, 0, 0, 0, 0, 0, 0, 0, 0, 0, 0, 0, 0, 0, 0, 0, 0, 0, 0, 0, 0, 0, 0, 0, 0, 0, 0, 0, 0, 0, 0, 0], 4)
  else
    if decide (vi < 0) then
      k4 N aC aB aA aH vi bJ bA true
    else
      k4 N aC aB aA aH vi bJ bA (decide ((aB.length : Int) ≤ vi))
def qE (N : Nat) (aC : Int) (aB : List aO) (aA : List aK) (aH : Int) (vi : Int) (bJ : Int) (bA : List Int) : Option ((List Int) × Int) :=
  (uY N aC aB aA aH).bind fun x16 =>
  if !x16 then
    k7 N aC aB aA aH vi bJ bA true
  else
    if decide (bJ < 0) then
      k7 N aC aB aA aH vi bJ bA true
    else
      k7 N aC aB aA aH vi bJ bA (decide (520 < (bA.length : Int)))
def n9 (N : Nat) (x2 : Bool) : Option Bool :=
  some x2
def rR (N : Nat) (code : Int) : Option Bool :=
  if decide (1 ≤ code) then
    n9 N (decide (code ≤ 17))
  else
    n9 N false
def xS (N : Nat) (l0 : List Int) : Option (List Int) :=
  some l0
def kR (N : Nat) (parts : List (List Int)) : Nat → Int → (List Int) → Option (List Int)
  | 0, _, _ => none
  | m + 1, x8, bF =>
    if decide (x8 < (parts.length : Int)) then
      (dB parts x8).bind fun cG =>
      (kY 1 bF cG).bind fun bO =>
      (kR N parts m) (IntKind.i64.wrap (x8 + 1)) bO
    else
      some bF
def pR (N : Nat) (parts : List (List Int)) : Option (List Int) :=
  (kR N parts N 0 []).bind fun p2 =>
  xS N p2
def iZ (N : Nat) (x4 : Bool) : Option Bool :=
  some x4
def o1 (N : Nat) (vm : Int) (vn : Int) : Option Bool :=
  if decide (1 ≤ vn) then
    if decide (vn ≤ 15) then
      if decide (1 ≤ vm) then
        iZ N (decide (vm ≤ vn))
      else
        iZ N false
    else
      iZ N false
  else
    iZ N false
def k6 (N : Nat) (x8 : Int) (b_1 : List Int) (c1 : Int) (aBl : Int) (l2 : List Int) : Option (Int × (List Int) × Int × Int × (List Int) × Int) :=
  some (IntKind.i64.wrap x8, l2, c1, aBl, b_1, 0)
def o3 (N : Nat) (x8 : Int) (x18 : List Int) (x35 : Bool) : Option (Int × (List Int) × Int × Int × (List Int) × Int) :=
  if x35 then
    some (0, [], 0, 0, [], 1)
  else
    (dB x18 0).bind fun x38 =>
    (sub x18 1 (IntKind.i64.wrap (1 + (IntKind.i64.wrap x38)))).bind fun x44 =>
    (pR N [x44]).bind fun x46 =>
    (sub x18 (IntKind.i64.wrap (1 + (IntKind.i64.wrap x38))) (x18.length : Int)).bind fun x49 =>
    k6 N x8 x49 0 0 x46
def sM (N : Nat) (x8 : Int) (b_2 : List Int) (aAS : Int) (aAL : Int) : Option (Int × (List Int) × Int × Int × (List Int) × Int) :=
  (o1 N aAS aAL).bind fun x73 =>
  if !x73 then
    some (0, [], 0, 0, [], 5)
  else
    k6 N x8 b_2 aAS aAL []
def tC (N : Nat) (b : List Int) : Option (Int × (List Int) × Int × Int × (List Int) × Int) :=
  (dB b 0).bind fun x8 =>
  (rR N (IntKind.i64.wrap x8)).bind fun bO =>
  if !bO then
    some (0, [], 0, 0, [], 80)
  else
    (sub b 1 (b.length : Int)).bind fun x18 =>
    if (IntKind.i64.wrap x8) == 1 then
      if (x18.length : Int) == 0 then
        o3 N x8 x18 true
      else
        (dB x18 0).bind fun gX =>
        o3 N x8 x18 (decide ((IntKind.i64.wrap ((x18.length : Int) - 1)) < (IntKind.i64.wrap gX)))
    else
      if (IntKind.i64.wrap x8) == 11 then
        if decide ((x18.length : Int) < 2) then
          some (0, [], 0, 0, [], 1)
        else
          (dB x18 0).bind fun x58 =>
          (dB x18 1).bind fun x62 =>
          (sub x18 2 (x18.length : Int)).bind fun x66 =>
          sM N x8 x66 (IntKind.i64.wrap x58) (IntKind.i64.wrap x62)
      else
        k6 N x8 x18 0 0 []
def vE (N : Nat) (l0 : List bM) : Option ((List bM) × Int) :=
  some (l0, 0)
def kB (N : Nat) : Nat → (List Int) → (List bM) → Option (LR ((List bM)) ((List bM) × Int))
  | 0, _, _ => none
  | m + 1, b_1, bF =>
    if decide (0 < (b_1.length : Int)) then
      (tC N b_1).bind fun x16 =>
      if x16.2.2.2.2.2 != 0 then
        some (.ret ([], x16.2.2.2.2.2))
      else
        (kY 48 bF [(bM.mk x16.1 x16.2.1 x16.2.2.1 x16.2.2.2.1)]).bind fun x26 =>
        (kB N m) x16.2.2.2.2.1 x26
    else
      some (.brk bF)
def rY (N : Nat) (b : List Int) : Option ((List bM) × Int) :=
  if decide (520 < (b.length : Int)) then
    some ([], 4)
  else
    (kB N N b []).bind fun q => match q with
      | .ret v => some v
      | .brk p2 =>
        vE N p2
def t5 (N : Nat) (l0 : List Bool) : Option Bool :=
  some ((l0.length : Int) == 0)
def jH (N : Nat) (l : List bM) (x9 : Int) (rec : Int → (List Bool) → Option (LR ((List Bool)) (Bool))) (nM : List Bool) : Option (LR ((List Bool)) (Bool)) :=
  rec (IntKind.i64.wrap (x9 + 1)) nM
def mZ (N : Nat) (l : List bM) (x9 : Int) (bF : List Bool) (rec : Int → (List Bool) → Option (LR ((List Bool)) (Bool))) (vF : Bool) : Option (LR ((List Bool)) (Bool)) :=
  if vF then
    some (.ret false)
  else
    (dB bF (IntKind.i64.wrap ((bF.length : Int) - 1))).bind fun x35 =>
    jH N l x9 rec (bF.set (Int.toNat (IntKind.i64.wrap ((bF.length : Int) - 1))) true)
def d6 (N : Nat) (l : List bM) : Nat → Int → (List Bool) → Option (LR ((List Bool)) (Bool))
  | 0, _, _ => none
  | m + 1, x9, bF =>
    if decide (x9 < (l.length : Int)) then
      (dB l x9).bind fun b7 =>
      if b7.Code == 14 then
        (kY 1 bF [false]).bind fun d8 =>
        jH N l x9 (d6 N l m) d8
      else
        if b7.Code == 15 then
          if decide ((IntKind.i64.wrap ((bF.length : Int) - 1)) < 0) then
            mZ N l x9 bF (d6 N l m) true
          else
            (dB bF (IntKind.i64.wrap ((bF.length : Int) - 1))).bind fun jG =>
            mZ N l x9 bF (d6 N l m) jG
        else
          if b7.Code == 16 then
            if decide ((IntKind.i64.wrap ((bF.length : Int) - 1)) < 0) then
              some (.ret false)
            else
              (sub bF 0 (IntKind.i64.wrap ((bF.length : Int) - 1))).bind fun x42 =>
              jH N l x9 (d6 N l m) x42
          else
            jH N l x9 (d6 N l m) bF
    else
      some (.brk bF)
def qB (N : Nat) (l : List bM) : Option Bool :=
  (d6 N l N 0 []).bind fun q => match q with
    | .ret v => some v
    | .brk p2 =>
      t5 N p2
def s7 (N : Nat) : Option Bool :=
  some true
def gY (N : Nat) (stack : List (List Int)) : Nat → Int → Option (LR (Unit) (Bool))
  | 0, _ => none
  | m + 1, cG =>
    if decide (cG < (stack.length : Int)) then
      (dB stack cG).bind fun fF =>
      if decide (520 < (fF.length : Int)) then
        some (.ret false)
      else
        (gY N stack m) (IntKind.i64.wrap (cG + 1))
    else
      some (.brk ())
def o2 (N : Nat) (stack : List (List Int)) : Option Bool :=
  if decide (64 < (stack.length : Int)) then
    some false
  else
    (gY N stack N 0).bind fun q => match q with
      | .ret v => some v
      | .brk p2 =>
        s7 N
def pM (N : Nat) (l0 : List (List Int)) : Option (List (List Int)) :=
  some l0
def jJ (N : Nat) (stack : List (List Int)) : Nat → Int → (List (List Int)) → Option (List (List Int))
  | 0, _, _ => none
  | m + 1, x8, bF =>
    if decide (x8 < (stack.length : Int)) then
      (dB stack x8).bind fun cG =>
      (pR N [cG]).bind fun x15 =>
      (kY 24 bF [x15]).bind fun x17 =>
      (jJ N stack m) (IntKind.i64.wrap (x8 + 1)) x17
    else
      some bF
def nQ (N : Nat) (stack : List (List Int)) : Option (List (List Int)) :=
  (jJ N stack N 0 []).bind fun p2 =>
  pM N p2
def iM (N : Nat) (aE : List Int) (aF : Int) (aJ : Int) (aG : List (List Int)) (aD : List aS) (aW : Int) (x2 : Bool) : Option Bool :=
  some x2
def l9 (N : Nat) (aE : List Int) (aF : Int) (aJ : Int) (aG : List (List Int)) (aD : List aS) (aW : Int) : Option Bool :=
  if (aD.length : Int) == 0 then
    some true
  else
    (dB aD (IntKind.i64.wrap ((aD.length : Int) - 1))).bind fun dD =>
    if dD.outer then
      iM N aE aF aJ aG aD aW dD.taken
    else
      iM N aE aF aJ aG aD aW false
def sG (N : Nat) (aR : Int) (bC : List Int) (b4 : Int) (bY : Int) : Option Int :=
  if aR == 8 then
    some 6
  else
    if aR == 10 then
      some 21
    else
      if aR == 11 then
        some (IntKind.i64.wrap (1 + (IntKind.i64.wrap (20 * bY))))
      else
        some 1
def mA (N : Nat) (aR : Int) (bC : List Int) (b4 : Int) (bY : Int) (cG : Bool) : Option Int :=
  if cG then
    some 2
  else
    if aR == 11 then
      some (IntKind.i64.wrap (2 * bY))
    else
      some 1
def kE (N : Nat) (aR : Int) (bC : List Int) (b4 : Int) (bY : Int) (x5 : Bool) : Option Int :=
  if x5 then
    some 0
  else
    if aR == 4 then
      mA N aR bC b4 bY (aR == 4)
    else
      if aR == 5 then
        mA N aR bC b4 bY (aR == 5)
      else
        mA N aR bC b4 bY (aR == 10)
def r4 (N : Nat) (aR : Int) (bC : List Int) (b4 : Int) (bY : Int) : Option Int :=
  if aR == 1 then
    kE N aR bC b4 bY (aR == 1)
  else
    if aR == 15 then
      kE N aR bC b4 bY (aR == 15)
    else
      if aR == 16 then
        kE N aR bC b4 bY (aR == 16)
      else
        kE N aR bC b4 bY (aR == 17)
def cT (N : Nat) (aE : List Int) (aF : Int) (aJ : Int) (aG : List (List Int)) (aD : List aS) (aW : Int) : Option (List Int) :=
  (dB aG (IntKind.i64.wrap ((aG.length : Int) - 1))).bind fun cJ =>
  some cJ
def uX (N : Nat) : Option Bool :=
  some false
def i6 (N : Nat) (gP : List Int) : Nat → Int → Option (LR (Unit) (Bool))
  | 0, _ => none
  | m + 1, x7 =>
    if decide (x7 < (gP.length : Int)) then
      (dB gP x7).bind fun x9 =>
      if x9 != 0 then
        some (.ret true)
      else
        (i6 N gP m) (IntKind.i64.wrap (x7 + 1))
    else
      some (.brk ())
def lM (N : Nat) (gP : List Int) : Option Bool :=
  (i6 N gP N 0).bind fun q => match q with
    | .ret v => some v
    | .brk p2 =>
      uX N
def eO (N : Nat) (aE : List Int) (aF : Int) (aJ : Int) (aG : List (List Int)) (aD : List aS) (aW : Int) (vn : Int) : Option ((List Int) × Int × Int × (List (List Int)) × (List aS) × Int) :=
  (sub aG 0 (IntKind.i64.wrap ((aG.length : Int) - vn))).bind fun x16 =>
  some (aE, aF, aJ, x16, aD, aW)
def g8 (N : Nat) (aE : List Int) (aF : Int) (aJ : Int) (aG : List (List Int)) (aD : List aS) (aW : Int) (gP : List Int) : Option (Int × (List Int) × Int × Int × (List (List Int)) × (List aS) × Int) :=
  if decide (64 ≤ (aG.length : Int)) then
    some (4, aE, aF, aJ, aG, aD, aW)
  else
    (kY 24 aG [gP]).bind fun x18 =>
    some (0, aE, aF, aJ, x18, aD, aW)
def wV (N : Nat) (va : List Int) (b : List Int) : Option Bool :=
  some ((yQ va).toList == (yQ b).toList)
def sT (N : Nat) (l0 : List Int) : Option (List Int) :=
  some l0
def fU (N : Nat) : Nat → Int → (List Int) → Option (List Int)
  | 0, _, _ => none
  | m + 1, lR, bF =>
    if decide (0 < lR) then
      (kY 1 bF [IntKind.u8.wrap lR]).bind fun fF =>
      (shr .u32 lR 8).bind fun x7 =>
      (fU N m) x7 fF
    else
      some bF
def jF (N : Nat) (vn : Int) : Option (List Int) :=
  (fU N N vn []).bind fun p2 =>
  sT N p2
def mL (N : Nat) (v : Bool) : Option (List Int) :=
  if v then
    (jF N 1).bind fun x4 =>
    some x4
  else
    (jF N 0).bind fun x5 =>
    some x5
def dJ (N : Nat) (aE : List Int) (aF : Int) (aJ : Int) (aG : List (List Int)) (aD : List aS) (aW : Int) (vn : Int) (gP : List Int) : Option ((List Int) × Int × Int × (List (List Int)) × (List aS) × Int) :=
  (eO N aE aF aJ aG aD aW vn).bind fun x8 =>
  (kY 24 x8.2.2.2.1 [gP]).bind fun x16 =>
  some (x8.1, x8.2.1, x8.2.2.1, x16, x8.2.2.2.2.1, x8.2.2.2.2.2)
def oU (N : Nat) (l1 : List Int) : Option (List Int) :=
  (b9 4 l1).bind fun q =>
  some l1
def i0 (N : Nat) (vh : List Int) : Nat → Int → (List Int) → Option (List Int)
  | 0, _, _ => none
  | m + 1, x8, eJ =>
    if decide (x8 < 32) then
      (cX 32 vh x8).bind fun b7 =>
      (cX 4 eJ (IntKind.i64.wrap (3 - (IntKind.i64.wrap (Int.tdiv x8 8))))).bind fun x17 =>
      (shl .u64 x17 8).bind fun x19 =>
      (i0 N vh m) (IntKind.i64.wrap (x8 + 1)) (eJ.set (Int.toNat (IntKind.i64.wrap (3 - (IntKind.i64.wrap (Int.tdiv x8 8))))) (bits .or .u64 x19 (IntKind.u64.wrap b7)))
    else
      some eJ
def iU (N : Nat) (vh : List Int) : Option (List Int) :=
  (b9 32 vh).bind fun q_1 =>
  (i0 N vh N 0 (List.replicate 4 0)).bind fun p2 =>
  oU N p2
def iQ (N : Nat) (vn : Int) : Option (List Int) :=
  some [vn, 0, 0, 0]
def nT (N : Nat) : Option (List Int) :=
  some [18446744073709515503, 18446744073709551615, 18446744073709551615, 18446744073709551615]
def w9 (N : Nat) : Option Int :=
  some 0
def oE (N : Nat) (va : List Int) (b : List Int) : Nat → Int → Option (LR (Unit) (Int))
  | 0, _ => none
  | m + 1, vi =>
    if decide (0 ≤ vi) then
      (cX 4 va vi).bind fun b7 =>
      (cX 4 b vi).bind fun bO =>
      if decide (b7 < bO) then
        some (.ret (-1))
      else
        if decide (bO < b7) then
          some (.ret 1)
        else
          (oE N va b m) (IntKind.i64.wrap (vi - 1))
    else
      some (.brk ())
def oN (N : Nat) (va : List Int) (b : List Int) : Option Int :=
  (oE N va b N 3).bind fun q => match q with
    | .ret v => some v
    | .brk p2 =>
      w9 N
def mK (N : Nat) : Option (List Int) :=
  some [18446744073709533559, 18446744073709551615, 18446744073709551615, 9223372036854775807]
def iP (N : Nat) (x_3 : Int) (aG3 : Int) : Option Int :=
  (aIV (⟨#[0, 1, 2, 2, 3, 3, 3, 3, 4, 4, 4, 4, 4, 4, 4, 4, 5, 5, 5, 5, 5, 5, 5, 5, 5, 5, 5, 5, 5, 5, 5, 5, 6, 6, 6, 6, 6, 6, 6, 6, 6, 6, 6, 6, 6, 6, 6, 6, 6, 6, 6, 6, 6, 6, 6, 6, 6, 6, 6, 6, 6, 6, 6, 6, 7, 7, 7, 7, 7, 7, 7, 7, 7, 7, 7, 7, 7, 7, 7, 7, 7, 7, 7, 7, 7, 7, 7, 7, 7, 7, 7, 7, 7, 7, 7, 7, 7, 7, 7, 7, 7, 7, 7, 7, 7, 7, 7, 7, 7, 7, 7, 7, 7, 7, 7, 7, 7, 7, 7, 7, 7, 7, 7, 7, 7, 7, 7, 7, 8, 8, 8, 8, 8, 8, 8, 8, 8, 8, 8, 8, 8, 8, 8, 8, 8, 8, 8, 8, 8, 8, 8, 8, 8, 8, 8, 8, 8, 8, 8, 8, 8, 8, 8, 8, 8, 8, 8, 8, 8, 8, 8, 8, 8, 8, 8, 8, 8, 8, 8, 8, 8, 8, 8, 8, 8, 8, 8, 8, 8, 8, 8, 8, 8, 8, 8, 8, 8, 8, 8, 8, 8, 8, 8, 8, 8, 8, 8, 8, 8, 8, 8, 8, 8, 8, 8, 8, 8, 8, 8, 8, 8, 8, 8, 8, 8, 8, 8, 8, 8, 8, 8, 8, 8, 8, 8, 8, 8, 8, 8, 8, 8, 8, 8, 8, 8, 8, 8, 8, 8, 8, 8, 8, 8, 8, 8, 8]⟩) (IntKind.u8.wrap x_3)).bind fun d8 =>
  some (IntKind.i64.wrap (aG3 + (IntKind.i64.wrap d8)))
def jO (N : Nat) (x_2 : Int) (lR : Int) : Option Int :=
  if decide (256 ≤ x_2) then
    (shr .u64 x_2 8).bind fun x16 =>
    iP N x16 (IntKind.i64.wrap (lR + 8))
  else
    iP N x_2 lR
def jN (N : Nat) (x_1 : Int) (vn : Int) : Option Int :=
  if decide (65536 ≤ x_1) then
    (shr .u64 x_1 16).bind fun cG =>
    jO N cG (IntKind.i64.wrap (vn + 16))
  else
    jO N x_1 vn
def nX (N : Nat) (x : Int) : Option Int :=
  if decide (4294967296 ≤ x) then
    (shr .u64 x 32).bind fun x6 =>
    jN N x6 32
  else
    jN N x 0
def wU (N : Nat) : Option Int :=
  some 0
def oO (N : Nat) (va : List Int) : Nat → Int → Option (LR (Unit) (Int))
  | 0, _ => none
  | m + 1, vi =>
    if decide (0 ≤ vi) then
      (cX 4 va vi).bind fun x9 =>
      if x9 != 0 then
        (nX N x9).bind fun x17 =>
        some (.ret (IntKind.i64.wrap ((IntKind.i64.wrap (64 * vi)) + x17)))
      else
        (oO N va m) (IntKind.i64.wrap (vi - 1))
    else
      some (.brk ())
def aAe (N : Nat) (va : List Int) : Option Int :=
  (oO N va N 3).bind fun q => match q with
    | .ret v => some v
    | .brk p2 =>
      wU N
def lZ (N : Nat) (x : Int) (y : Int) : Option (Int × Int) :=
  (shr .u64 x 32).bind fun x17 =>
  (shr .u64 y 32).bind fun iH =>
  (shr .u64 (IntKind.u64.wrap ((bits .and .u64 x 4294967295) * (bits .and .u64 y 4294967295))) 32).bind fun x29 =>
  (shr .u64 (IntKind.u64.wrap ((IntKind.u64.wrap (x17 * (bits .and .u64 y 4294967295))) + x29)) 32).bind fun gO =>
  (shr .u64 (IntKind.u64.wrap ((bits .and .u64 (IntKind.u64.wrap ((IntKind.u64.wrap (x17 * (bits .and .u64 y 4294967295))) + x29)) 4294967295) + (IntKind.u64.wrap ((bits .and .u64 x 4294967295) * iH)))) 32).bind fun x46 =>
  some (IntKind.u64.wrap ((IntKind.u64.wrap ((IntKind.u64.wrap (x17 * iH)) + gO)) + x46), IntKind.u64.wrap (x * y))
def hH (N : Nat) (x y c : Int) : Option (Int × Int) := tM x y c
def aAU (N : Nat) (l0 : List Int) (l1 : List Int) : Option ((List Int) × (List Int)) :=
  (b9 4 l1).bind fun q_1 =>
  (b9 4 l0).bind fun q =>
  some (l0, l1)
def aAN (N : Nat) (l2 : List Int) : Option ((List Int) × (List Int)) :=
  (b9 8 l2).bind fun q_2 =>
  (tY l2 4 8).bind fun x63 =>
  (sY 4 x63).bind fun x64 =>
  (tY l2 0 4).bind fun x66 =>
  (sY 4 x66).bind fun x67 =>
  aAU N x64 x67
def wM (N : Nat) (va : List Int) (b : List Int) (bO : Int) (rec : Int → (List Int) → Option (List Int)) (s8 : List Int) : Option (List Int) :=
  rec (IntKind.i64.wrap (bO + 1)) s8
def wY (N : Nat) (va : List Int) (b : List Int) (bO : Int) (rec : Int → (List Int) → Option (List Int)) (q9 : Int) (aDx : List Int) : Option (List Int) :=
  (cX 8 aDx (IntKind.i64.wrap (bO + 4))).bind fun x61 =>
  wM N va b bO rec (aDx.set (Int.toNat (IntKind.i64.wrap (bO + 4))) q9)
def dK (N : Nat) (va : List Int) (b : List Int) (bO : Int) : Nat → Int → Int → (List Int) → Option (Int × (List Int))
  | 0, _, _, _ => none
  | m + 1, carry_1, x17, l4_3 =>
    if decide (x17 < 4) then
      (cX 4 va bO).bind fun d8 =>
      (cX 4 b x17).bind fun x25 =>
      (lZ N d8 x25).bind fun x27 =>
      (cX 8 l4_3 (IntKind.i64.wrap (bO + x17))).bind fun x35 =>
      (hH N x27.2 x35 0).bind fun x37 =>
      (hH N x37.1 carry_1 0).bind fun x46 =>
      (dK N va b bO m) (IntKind.u64.wrap ((IntKind.u64.wrap (x27.1 + x37.2)) + x46.2)) (IntKind.i64.wrap (x17 + 1)) (l4_3.set (Int.toNat (IntKind.i64.wrap (bO + x17))) x46.1)
    else
      some (carry_1, l4_3)
def lJ (N : Nat) (va : List Int) (b : List Int) : Nat → Int → (List Int) → Option (List Int)
  | 0, _, _ => none
  | m + 1, bO, l4 =>
    if decide (bO < 4) then
      (dK N va b bO N 0 0 l4).bind fun p6 =>
      wY N va b bO (lJ N va b m) p6.1 p6.2
    else
      some l4
def aAj (N : Nat) (va : List Int) (b : List Int) : Option ((List Int) × (List Int)) :=
  (lJ N va b N 0 (List.replicate 8 0)).bind fun p3 =>
  aAN N p3
def sH (N : Nat) (aCJ : Int) (l0 : List Int) : Option ((List Int) × Int) :=
  (b9 4 l0).bind fun q =>
  some (l0, aCJ)
def lC (N : Nat) : Nat → Int → Int → (List Int) → Option (Int × (List Int))
  | 0, _, _, _ => none
  | m + 1, low_2, x7, bF =>
    if decide (x7 < 4) then
      (cX 4 bF x7).bind fun fF =>
      (shl .u64 fF 1).bind fun bO =>
      (shr .u64 fF 63).bind fun dD =>
      (lC N m) dD (IntKind.i64.wrap (x7 + 1)) (bF.set (Int.toNat x7) (bits .or .u64 bO low_2))
    else
      some (low_2, bF)
def oP (N : Nat) (va : List Int) (low : Int) : Option ((List Int) × Int) :=
  (lC N N low 0 va).bind fun p2 =>
  sH N p2.1 p2.2
def uO (N : Nat) (x y c : Int) : Option (Int × Int) := aCL x y c
def w8 (N : Nat) (borrow : Int) (l1 : List Int) : Option ((List Int) × Bool) :=
  (b9 4 l1).bind fun q =>
  some (l1, borrow != 0)
def oH (N : Nat) (va : List Int) (b : List Int) : Nat → Int → Int → (List Int) → Option (Int × (List Int))
  | 0, _, _, _ => none
  | m + 1, borrow_1, x9, l3 =>
    if decide (x9 < 4) then
      (cX 4 va x9).bind fun x15 =>
      (cX 4 b x9).bind fun x18 =>
      (uO N x15 x18 borrow_1).bind fun iH =>
      (cX 4 l3 x9).bind fun fE =>
      (oH N va b m) iH.2 (IntKind.i64.wrap (x9 + 1)) (l3.set (Int.toNat x9) iH.1)
    else
      some (borrow_1, l3)
def rG (N : Nat) (va : List Int) (b : List Int) : Option ((List Int) × Bool) :=
  (oH N va b N 0 0 (List.replicate 4 0)).bind fun p2 =>
  w8 N p2.1 p2.2
def xE (N : Nat) (l0 : List Int) (l1 : List Int) : Option ((List Int) × (List Int) × Bool) :=
  (b9 4 l1).bind fun q_3 =>
  (b9 4 l0).bind fun q_2 =>
  some (l0, l1, true)
def wT (N : Nat) (l0 : List Int) (l1 : List Int) : Option ((List Int) × (List Int) × Bool) :=
  (b9 4 l0).bind fun q_4 =>
  (b9 4 l1).bind fun q_5 =>
  xE N l0 l1
def wZ (N : Nat) (b : List Int) (cS : Int) (rec : Int → (List Int) → (List Int) → (List Int) → Option ((List Int) × (List Int))) (nM : List Int) (nC : List Int) (i3 : List Int) : Option ((List Int) × (List Int)) :=
  rec (IntKind.i64.wrap (cS - 1)) nM nC i3
def qM (N : Nat) (b : List Int) (cS : Int) (bit : Int) (rec : Int → (List Int) → (List Int) → (List Int) → Option (LR ((List Int) × (List Int) × (List Int)) ((List Int) × (List Int)))) (aEG : List Int) (aE8 : List Int) (aEK : List Int) : Option (LR ((List Int) × (List Int) × (List Int)) ((List Int) × (List Int))) :=
  rec (IntKind.i64.wrap (bit - 1)) aEG aE8 aEK
def oI (N : Nat) (b : List Int) (cS : Int) (bit : Int) (eZ : List Int) (x40 : (List Int) × Int) (x46 : (List Int) × Int) (rec : Int → (List Int) → (List Int) → (List Int) → Option (LR ((List Int) × (List Int) × (List Int)) ((List Int) × (List Int)))) (x56 : Bool) : Option (LR ((List Int) × (List Int) × (List Int)) ((List Int) × (List Int))) :=
  if x56 then
    (rG N x46.1 b).bind fun x60 =>
    (b9 4 x60.1).bind fun aMP =>
    (cX 4 eZ cS).bind fun x64 =>
    (shl .u64 1 bit).bind fun x67 =>
    qM N b cS bit rec x40.1 (eZ.set (Int.toNat cS) (bits .or .u64 x64 x67)) x60.1
  else
    qM N b cS bit rec x40.1 eZ x46.1
def qP (N : Nat) (b : List Int) (cS : Int) (bit : Int) (i9 : List Int) (eZ : List Int) (lU : List Int) (rec : Int → (List Int) → (List Int) → (List Int) → Option (LR ((List Int) × (List Int) × (List Int)) ((List Int) × (List Int)))) (x37 : Bool) : Option (LR ((List Int) × (List Int) × (List Int)) ((List Int) × (List Int))) :=
  if x37 then
    some (.ret (eZ, lU))
  else
    (b9 4 i9).bind fun q_6 =>
    (oP N i9 0).bind fun x40 =>
    (b9 4 x40.1).bind fun q_7 =>
    (b9 4 lU).bind fun q_8 =>
    (oP N lU x40.2).bind fun x46 =>
    (b9 4 x46.1).bind fun q_9 =>
    if x46.2 != 0 then
      oI N b cS bit eZ x40 x46 rec true
    else
      (oN N x46.1 b).bind fun x54 =>
      oI N b cS bit eZ x40 x46 rec (decide (0 ≤ x54))
def dV (N : Nat) (b : List Int) (cS : Int) : Nat → Int → (List Int) → (List Int) → (List Int) → Option (LR ((List Int) × (List Int) × (List Int)) ((List Int) × (List Int)))
  | 0, _, _, _, _ => none
  | m + 1, bit, i9, eZ, lU =>
    if decide (0 ≤ bit) then
      (b9 4 lU).bind fun aNc =>
      if lU == [0, 0, 0, 0] then
        (b9 4 i9).bind fun aM9 =>
        qP N b cS bit i9 eZ lU (dV N b cS m) (i9 == [0, 0, 0, 0])
      else
        qP N b cS bit i9 eZ lU (dV N b cS m) false
    else
      some (.brk (i9, eZ, lU))
def lG (N : Nat) (b : List Int) : Nat → Int → (List Int) → (List Int) → (List Int) → Option ((List Int) × (List Int))
  | 0, _, _, _, _ => none
  | m + 1, cS, bF, l2, l3 =>
    if decide (0 ≤ cS) then
      (dV N b cS N 63 bF l2 l3).bind fun q => match q with
        | .ret p5_1 =>
          some (p5_1.1, p5_1.2)
        | .brk p5 =>
          wZ N b cS (lG N b m) p5.1 p5.2.1 p5.2.2
    else
      some (l2, l3)
def v6 (N : Nat) (hi : List Int) (lo : List Int) (b : List Int) : Option ((List Int) × (List Int) × Bool) :=
  (b9 4 b).bind fun q =>
  (b9 4 hi).bind fun q_1 =>
  (oN N b hi).bind fun x16 =>
  if decide (x16 ≤ 0) then
    some ([0, 0, 0, 0], [0, 0, 0, 0], false)
  else
    (lG N b N 3 lo (List.replicate 4 0) hi).bind fun p3 =>
    wT N p3.1 p3.2
def oF (N : Nat) (va : List Int) (vm : List Int) : Option (List Int) :=
  (b9 4 va).bind fun q =>
  (b9 4 vm).bind fun q_1 =>
  (oN N va vm).bind fun cG =>
  if decide (cG < 0) then
    some va
  else
    (v6 N [0, 0, 0, 0] va vm).bind fun x17 =>
    (b9 4 x17.1).bind fun q_2 =>
    (b9 4 x17.2.1).bind fun q_3 =>
    some x17.2.1
def sW (N : Nat) (l1 : List Int) : Option (List Int) :=
  (b9 4 l1).bind fun q_5 =>
  some l1
def tL (N : Nat) (va : List Int) (b : List Int) (vm : List Int) : Option (List Int) :=
  (b9 4 vm).bind fun q =>
  if vm == [0, 0, 0, 0] then
    some [0, 0, 0, 0]
  else
    (b9 4 va).bind fun q_1 =>
    (b9 4 b).bind fun q_2 =>
    (aAj N va b).bind fun x19 =>
    (b9 4 x19.1).bind fun q_3 =>
    (b9 4 x19.2).bind fun q_4 =>
    (oF N x19.1 vm).bind fun x25 =>
    (v6 N x25 x19.2 vm).bind fun x28 =>
    (b9 4 x28.1).bind fun q_6 =>
    (b9 4 x28.2.1).bind fun q_7 =>
    sW N x28.2.1
def sE (N : Nat) (va : List Int) (b : List Int) : Option (List Int) :=
  (b9 4 va).bind fun q =>
  (b9 4 b).bind fun q_1 =>
  (nT N).bind fun x7 =>
  (tL N va b x7).bind fun x8 =>
  (b9 4 x8).bind fun q_2 =>
  some x8
def u5 (N : Nat) (l1 : List Int) : Option (List Int) :=
  (b9 4 l1).bind fun q_2 =>
  some l1
def o5 (N : Nat) (va : List Int) (ve : List Int) (b7 : Int) (cJ : Int) (rec : Int → (List Int) → Option (List Int)) (i3 : List Int) : Option (List Int) :=
  rec (IntKind.i64.wrap (cJ + 1)) i3
def j7 (N : Nat) (va : List Int) (ve : List Int) (b7 : Int) : Nat → Int → (List Int) → Option (List Int)
  | 0, _, _ => none
  | m + 1, cJ, l3 =>
    if decide (cJ < b7) then
      (b9 4 l3).bind fun q_3 =>
      (sE N l3 l3).bind fun d8 =>
      (b9 4 d8).bind fun q_4 =>
      (cX 4 ve (IntKind.i64.wrap (Int.tdiv (IntKind.i64.wrap ((IntKind.i64.wrap (b7 - 1)) - cJ)) 64))).bind fun x25 =>
      (shr .u64 x25 (Int.tmod (IntKind.i64.wrap ((IntKind.i64.wrap (b7 - 1)) - cJ)) 64)).bind fun x29 =>
      if (bits .and .u64 x29 1) == 1 then
        (b9 4 va).bind fun q_5 =>
        (sE N d8 va).bind fun gO =>
        (b9 4 gO).bind fun q_6 =>
        o5 N va ve b7 cJ (j7 N va ve b7 m) gO
      else
        o5 N va ve b7 cJ (j7 N va ve b7 m) d8
    else
      some l3
def rK (N : Nat) (va : List Int) (ve : List Int) : Option (List Int) :=
  (iQ N 1).bind fun x9 =>
  (b9 4 x9).bind fun q =>
  (b9 4 ve).bind fun q_1 =>
  (aAe N ve).bind fun b7 =>
  (j7 N va ve b7 N 0 x9).bind fun p2 =>
  u5 N p2
def lY (N : Nat) (va : List Int) (b7 : Bool) : Option Bool :=
  if b7 then
    some false
  else
    (b9 4 va).bind fun q =>
    (mK N).bind fun cJ =>
    (rK N va cJ).bind fun bO =>
    (iQ N 1).bind fun x15 =>
    (b9 4 bO).bind fun q_1 =>
    (b9 4 x15).bind fun q_2 =>
    some (bO == x15)
def sD (N : Nat) (va : List Int) : Option Bool :=
  (b9 4 va).bind fun q_3 =>
  if va == [0, 0, 0, 0] then
    lY N va true
  else
    (nT N).bind fun x8 =>
    (oN N va x8).bind fun x9 =>
    lY N va (decide (0 ≤ x9))
def tQ (N : Nat) (x2 : Bool) : Option Bool :=
  some x2
def sI (N : Nat) (p : List Int) : Option Bool :=
  (b9 4 p).bind fun q =>
  (iQ N 1).bind fun x4 =>
  (b9 4 x4).bind fun q_1 =>
  if !(p == x4) then
    (sD N p).bind fun x8 =>
    tQ N x8
  else
    tQ N false
def mN (N : Nat) (va : List Int) : Option Bool :=
  (b9 4 va).bind fun q =>
  (mK N).bind fun x4 =>
  (oN N va x4).bind fun x5 =>
  some (decide (x5 < 0))
def mT (N : Nat) (cJ : (List Int)) (x18 : (List Int)) (x29 : Bool) : Option ((List Int) × (List Int) × Int) :=
  if x29 then
    some (List.replicate 4 0, List.replicate 4 0, 5)
  else
    some (cJ, x18, 0)
def tK (N : Nat) (b : List Int) : Option ((List Int) × (List Int) × Int) :=
  if (b.length : Int) != 64 then
    some (List.replicate 4 0, List.replicate 4 0, 8)
  else
    (sub b 0 32).bind fun cG =>
    (sY 32 cG).bind fun b7 =>
    (iU N b7).bind fun cJ =>
    (sub b 32 (b.length : Int)).bind fun x15 =>
    (sY 32 x15).bind fun x16 =>
    (iU N x16).bind fun x18 =>
    (b9 4 cJ).bind fun q =>
    (b9 4 x18).bind fun q_1 =>
    (mN N cJ).bind fun d8 =>
    if !d8 then
      mT N cJ x18 true
    else
      (mN N x18).bind fun x27 =>
      mT N cJ x18 (!x27)
def wL (N : Nat) (ve : List Int) : Option (List Int) :=
  (iQ N 4).bind fun x3 =>
  (b9 4 ve).bind fun q =>
  (rK N x3 ve).bind fun x5 =>
  (b9 4 x5).bind fun q_1 =>
  some x5
def tO (N : Nat) (l1 : List Int) : Option (List Int) :=
  (b9 32 l1).bind fun q =>
  some l1
def mF (N : Nat) (va : List Int) : Nat → Int → (List Int) → Option (List Int)
  | 0, _, _ => none
  | m + 1, x5, l2 =>
    if decide (x5 < 32) then
      (cX 4 va (IntKind.i64.wrap (3 - (IntKind.i64.wrap (Int.tdiv x5 8))))).bind fun fF =>
      (shr .u64 fF (IntKind.i64.wrap (56 - (IntKind.i64.wrap ((Int.tmod x5 8) * 8))))).bind fun x18 =>
      (cX 32 l2 x5).bind fun dD =>
      (mF N va m) (IntKind.i64.wrap (x5 + 1)) (l2.set (Int.toNat x5) (IntKind.u8.wrap x18))
    else
      some l2
def sV (N : Nat) (va : List Int) : Option (List Int) :=
  (mF N va N 0 (List.replicate 32 0)).bind fun p2 =>
  tO N p2
def aAF (N : Nat) (l0 : List Int) : Option (List Int) :=
  some l0
def mO (N : Nat) (parts : List (List Int)) : Nat → Int → (List Int) → Option (List Int)
  | 0, _, _ => none
  | m + 1, x8, bF =>
    if decide (x8 < (parts.length : Int)) then
      (dB parts x8).bind fun cG =>
      (b9 32 cG).bind fun q =>
      (kY 1 bF cG).bind fun bO =>
      (mO N parts m) (IntKind.i64.wrap (x8 + 1)) bO
    else
      some bF
def wH (N : Nat) (parts : List (List Int)) : Option (List Int) :=
  (mO N parts N 0 []).bind fun p2 =>
  aAF N p2
def xD (N : Nat) (q9 : Int) (l1 : List Int) : Option ((List Int) × Bool) :=
  (b9 4 l1).bind fun q =>
  some (l1, q9 != 0)
def oL (N : Nat) (va : List Int) (b : List Int) : Nat → Int → Int → (List Int) → Option (Int × (List Int))
  | 0, _, _, _ => none
  | m + 1, carry_1, x9, l3 =>
    if decide (x9 < 4) then
      (cX 4 va x9).bind fun x15 =>
      (cX 4 b x9).bind fun x18 =>
      (hH N x15 x18 carry_1).bind fun iH =>
      (cX 4 l3 x9).bind fun fE =>
      (oL N va b m) iH.2 (IntKind.i64.wrap (x9 + 1)) (l3.set (Int.toNat x9) iH.1)
    else
      some (carry_1, l3)
def vV (N : Nat) (va : List Int) (b : List Int) : Option ((List Int) × Bool) :=
  (oL N va b N 0 0 (List.replicate 4 0)).bind fun p2 =>
  xD N p2.1 p2.2
def k8 (N : Nat) (l1 : List Int) : Option (List Int) :=
  (b9 4 l1).bind fun q_4 =>
  some l1
def lA (N : Nat) (vm : List Int) (dD : (List Int) × Bool) (x29 : Bool) : Option (List Int) :=
  if x29 then
    (rG N dD.1 vm).bind fun gH =>
    (b9 4 gH.1).bind fun q_5 =>
    k8 N gH.1
  else
    k8 N dD.1
def s9 (N : Nat) (va : List Int) (b : List Int) (vm : List Int) : Option (List Int) :=
  (b9 4 vm).bind fun q =>
  if vm == [0, 0, 0, 0] then
    some [0, 0, 0, 0]
  else
    (b9 4 va).bind fun q_1 =>
    (oF N va vm).bind fun x16 =>
    (b9 4 b).bind fun q_2 =>
    (oF N b vm).bind fun x19 =>
    (vV N x16 x19).bind fun dD =>
    (b9 4 dD.1).bind fun q_3 =>
    if dD.2 then
      lA N vm dD true
    else
      (oN N dD.1 vm).bind fun x27 =>
      lA N vm dD (decide (0 ≤ x27))
def nW (N : Nat) (va : List Int) (b : List Int) : Option (List Int) :=
  (b9 4 va).bind fun q =>
  (b9 4 b).bind fun q_1 =>
  (mK N).bind fun x7 =>
  (s9 N va b x7).bind fun x8 =>
  (b9 4 x8).bind fun q_2 =>
  some x8
def rQ (N : Nat) (vh : List Int) : Option (List Int) :=
  (b9 32 vh).bind fun q =>
  (iU N vh).bind fun x4 =>
  (nW N x4 [0, 0, 0, 0]).bind fun x6 =>
  (b9 4 x6).bind fun q_1 =>
  some x6
def oY (N : Nat) (vr : List Int) (p : List Int) (vm : List Int) : Option (List Int) :=
  (b9 4 vr).bind fun q =>
  (sV N vr).bind fun x8 =>
  (b9 4 p).bind fun q_1 =>
  (sV N p).bind fun cG =>
  (b9 32 vm).bind fun q_2 =>
  (b9 32 x8).bind fun q_3 =>
  (b9 32 cG).bind fun q_4 =>
  (wH N [x8, cG, vm]).bind fun cJ =>
  (sJ N (⟨#[108, 105, 103, 104, 116, 99, 108, 105, 101, 110, 116, 47, 99, 104, 97, 108, 108, 101, 110, 103, 101]⟩) cJ).bind fun bO =>
  (rQ N bO).bind fun x15 =>
  (b9 4 x15).bind fun q_5 =>
  some x15
def lB (N : Nat) (p : List Int) (vm : List Int) (s_E : List Int) (s_S : List Int) (fE : Bool) : Option Bool :=
  if fE then
    some false
  else
    (mK N).bind fun x26 =>
    (b9 4 s_E).bind fun q =>
    (rG N x26 s_E).bind fun x29 =>
    (b9 4 x29.1).bind fun q_1 =>
    (b9 4 s_S).bind fun q_2 =>
    (wL N s_S).bind fun gO =>
    (b9 4 p).bind fun q_3 =>
    (rK N p x29.1).bind fun x37 =>
    (sE N gO x37).bind fun x38 =>
    (b9 4 x38).bind fun q_4 =>
    (b9 32 vm).bind fun q_5 =>
    (oY N x38 p vm).bind fun x44 =>
    (b9 4 x44).bind fun q_6 =>
    some (s_E == x44)
def tJ (N : Nat) (p : List Int) (vm : List Int) (s_E : List Int) (s_S : List Int) : Option Bool :=
  (b9 4 s_E).bind fun q_7 =>
  (mN N s_E).bind fun fF =>
  if !fF then
    lB N p vm s_E s_S true
  else
    (b9 4 s_S).bind fun q_8 =>
    (mN N s_S).bind fun x17 =>
    if !x17 then
      lB N p vm s_E s_S true
    else
      (b9 4 p).bind fun q_9 =>
      (sI N p).bind fun d8 =>
      lB N p vm s_E s_S (!d8)
def iG (N : Nat) (aE : List Int) (aF : Int) (aJ : Int) (aG : List (List Int)) (aD : List aS) (aW : Int) (x40 : Bool) : Option Int :=
  if x40 then
    some 61
  else
    some 0
def eN (N : Nat) (aE : List Int) (aF : Int) (aJ : Int) (aG : List (List Int)) (aD : List aS) (aW : Int) (key : List Int) (uD : List Int) : Option Int :=
  if (key.length : Int) != 32 then
    some 60
  else
    (sY 32 key).bind fun bO =>
    (iU N bO).bind fun x16 =>
    (b9 4 x16).bind fun q =>
    (sI N x16).bind fun x18 =>
    if !x18 then
      some 60
    else
      if (uD.length : Int) == 0 then
        some 0
      else
        (tK N uD).bind fun x25 =>
        if x25.2.2 != 0 then
          iG N aE aF aJ aG aD aW true
        else
          (b9 32 aE).bind fun q_1 =>
          (tJ N x16 aE x25.1 x25.2.1).bind fun x38 =>
          iG N aE aF aJ aG aD aW (!x38)
def kC (N : Nat) (aE : List Int) (aF : Int) (aJ : Int) (aG : List (List Int)) (aD : List aS) (aW : Int) (eH : Int) (vn : Int) (count : Int) : Option (Int × (List Int) × Int × Int × (List (List Int)) × (List aS) × Int) :=
  (mL N (decide (eH ≤ count))).bind fun x76 =>
  (dJ N aE aF aJ aG aD aW (IntKind.i64.wrap (2 * vn)) x76).bind fun x77 =>
  some (0, x77.1, x77.2.1, x77.2.2.1, x77.2.2.2.1, x77.2.2.2.2.1, x77.2.2.2.2.2)
def iF (N : Nat) (aE : List Int) (aF : Int) (aJ : Int) (aG : List (List Int)) (aD : List aS) (aW : Int) (eH : Int) (vn : Int) (kX : List (List Int)) (x43 : List (List Int)) (x45 : Int) (rec : Int → Int → Option (LR (Int) (Int × (List Int) × Int × Int × (List (List Int)) × (List aS) × Int))) (y7 : Int) : Option (LR (Int) (Int × (List Int) × Int × Int × (List (List Int)) × (List aS) × Int)) :=
  rec y7 (IntKind.i64.wrap (x45 + 1))
def dM (N : Nat) (aE : List Int) (aF : Int) (aJ : Int) (aG : List (List Int)) (aD : List aS) (aW : Int) (eH : Int) (vn : Int) (kX : List (List Int)) (x43 : List (List Int)) : Nat → Int → Int → Option (LR (Int) (Int × (List Int) × Int × Int × (List (List Int)) × (List aS) × Int))
  | 0, _, _ => none
  | m + 1, count_1, x45 =>
    if decide (x45 < vn) then
      (dB kX x45).bind fun x51 =>
      (dB x43 x45).bind fun x55 =>
      (eN N aE aF aJ aG aD aW x51 x55).bind fun x57 =>
      if x57 != 0 then
        some (.ret (x57, aE, aF, aJ, aG, aD, aW))
      else
        if decide (0 < (x55.length : Int)) then
          iF N aE aF aJ aG aD aW eH vn kX x43 x45 (dM N aE aF aJ aG aD aW eH vn kX x43 m) (IntKind.i64.wrap (count_1 + 1))
        else
          iF N aE aF aJ aG aD aW eH vn kX x43 x45 (dM N aE aF aJ aG aD aW eH vn kX x43 m) count_1
    else
      some (.brk count_1)
def iA (N : Nat) (aE : List Int) (aF : Int) (aJ : Int) (aG : List (List Int)) (aD : List aS) (aW : Int) (eH : Int) (vn : Int) : Option (Int × (List Int) × Int × Int × (List (List Int)) × (List aS) × Int) :=
  (tY aG (IntKind.i64.wrap ((aG.length : Int) - vn)) (aG.length : Int)).bind fun kX =>
  (tY aG (IntKind.i64.wrap ((aG.length : Int) - (IntKind.i64.wrap (2 * vn)))) (IntKind.i64.wrap ((aG.length : Int) - vn))).bind fun x43 =>
  (dM N aE aF aJ aG aD aW eH vn kX x43 N 0 0).bind fun q => match q with
    | .ret v => some v
    | .brk p2 =>
      kC N aE aF aJ aG aD aW eH vn p2
def pT (N : Nat) (vn : Int) : Option (Int × Int) :=
  some (vn, 0)
def jL (N : Nat) (b : List Int) : Nat → Int → Int → Option Int
  | 0, _, _ => none
  | m + 1, lR, x26 =>
    if decide (x26 < (b.length : Int)) then
      (dB b x26).bind fun x29 =>
      (shl .u32 (IntKind.u32.wrap x29) (IntKind.i64.wrap (8 * x26))).bind fun x36 =>
      (jL N b m) (bits .or .u32 lR x36) (IntKind.i64.wrap (x26 + 1))
    else
      some lR
def iK (N : Nat) (b : List Int) (kX : Bool) : Option (Int × Int) :=
  if kX then
    some (0, 82)
  else
    (jL N b N 0 0).bind fun p3 =>
    pT N p3
def mG (N : Nat) (b : List Int) : Option (Int × Int) :=
  if decide (4 < (b.length : Int)) then
    iK N b true
  else
    if decide (0 < (b.length : Int)) then
      (dB b (IntKind.i64.wrap ((b.length : Int) - 1))).bind fun x19 =>
      iK N b (x19 == 0)
    else
      iK N b false
def nR (N : Nat) (gP : List Int) (now : Int) : Option Int :=
  (mG N gP).bind fun x9 =>
  if x9.2 != 0 then
    some x9.2
  else
    if decide (now < (IntKind.i64.wrap x9.1)) then
      some 85
    else
      some 0
def dW (N : Nat) (c0 : List Int) (qT : Int) (qU : Int) (o4 : Int) (l3 : List (List Int)) (l4 : List aS) : Option (Int × (List Int) × Int × Int × (List (List Int)) × (List aS) × Int) :=
  some (0, c0, qT, qU, l3, l4, o4)
def kK (N : Nat) (aE : List Int) (aF : Int) (aJ : Int) (aG : List (List Int)) (aD : List aS) (aW : Int) (aR : Int) (bC : List Int) (b4 : Int) (bY : Int) : Option (Int × (List Int) × Int × Int × (List (List Int)) × (List aS) × Int) :=
  if aR == 1 then
    (g8 N aE aF aJ aG aD aW bC).bind fun bO =>
    some (bO.1, bO.2.1, bO.2.2.1, bO.2.2.2.1, bO.2.2.2.2.1, bO.2.2.2.2.2.1, bO.2.2.2.2.2.2)
  else
    if aR == 2 then
      (cT N aE aF aJ aG aD aW).bind fun x19 =>
      (g8 N aE aF aJ aG aD aW x19).bind fun dD =>
      some (dD.1, dD.2.1, dD.2.2.1, dD.2.2.2.1, dD.2.2.2.2.1, dD.2.2.2.2.2.1, dD.2.2.2.2.2.2)
    else
      if aR == 3 then
        (eO N aE aF aJ aG aD aW 1).bind fun fE =>
        dW N fE.1 fE.2.1 fE.2.2.1 fE.2.2.2.2.2 fE.2.2.2.1 fE.2.2.2.2.1
      else
        if aR == 4 then
          (dB aG (IntKind.i64.wrap ((aG.length : Int) - 2))).bind fun x50 =>
          (dB aG (IntKind.i64.wrap ((aG.length : Int) - 1))).bind fun x58 =>
          (dB (aG.set (Int.toNat (IntKind.i64.wrap ((aG.length : Int) - 1))) x50) (IntKind.i64.wrap ((aG.length : Int) - 2))).bind fun x61 =>
          dW N aE aF aJ aW ((aG.set (Int.toNat (IntKind.i64.wrap ((aG.length : Int) - 1))) x50).set (Int.toNat (IntKind.i64.wrap ((aG.length : Int) - 2))) x58) aD
        else
          if aR == 5 then
            (cT N aE aF aJ aG aD aW).bind fun x66 =>
            (dB aG (IntKind.i64.wrap ((aG.length : Int) - 2))).bind fun x77 =>
            (wV N x66 x77).bind fun x79 =>
            (mL N x79).bind fun x80 =>
            (dJ N aE aF aJ aG aD aW 2 x80).bind fun x81 =>
            dW N x81.1 x81.2.1 x81.2.2.1 x81.2.2.2.2.2 x81.2.2.2.1 x81.2.2.2.2.1
          else
            if aR == 6 then
              (cT N aE aF aJ aG aD aW).bind fun x86 =>
              (lM N x86).bind fun x87 =>
              (mL N (!x87)).bind fun x89 =>
              (dJ N aE aF aJ aG aD aW 1 x89).bind fun x90 =>
              dW N x90.1 x90.2.1 x90.2.2.1 x90.2.2.2.2.2 x90.2.2.2.1 x90.2.2.2.2.1
            else
              if aR == 7 then
                (cT N aE aF aJ aG aD aW).bind fun x94 =>
                (lM N x94).bind fun x95 =>
                if !x95 then
                  some (84, aE, aF, aJ, aG, aD, aW)
                else
                  (eO N aE aF aJ aG aD aW 1).bind fun x98 =>
                  dW N x98.1 x98.2.1 x98.2.2.1 x98.2.2.2.2.2 x98.2.2.2.1 x98.2.2.2.2.1
              else
                if aR == 8 then
                  (cT N aE aF aJ aG aD aW).bind fun u4 =>
                  (t9 N u4).bind fun aCi =>
                  (b9 32 aCi).bind fun q =>
                  (dJ N aE aF aJ aG aD aW 1 aCi).bind fun nO =>
                  dW N nO.1 nO.2.1 nO.2.2.1 nO.2.2.2.2.2 nO.2.2.2.1 nO.2.2.2.2.1
                else
                  if aR == 9 then
                    (cT N aE aF aJ aG aD aW).bind fun aCa =>
                    (jF N (IntKind.u32.wrap (aCa.length : Int))).bind fun uV =>
                    (g8 N aE aF aJ aG aD aW uV).bind fun aAC =>
                    some (aAC.1, aAC.2.1, aAC.2.2.1, aAC.2.2.2.1, aAC.2.2.2.2.1, aAC.2.2.2.2.2.1, aAC.2.2.2.2.2.2)
                  else
                    if aR == 10 then
                      (iA N aE aF aJ aG aD aW 1 1).bind fun aAW =>
                      some (aAW.1, aAW.2.1, aAW.2.2.1, aAW.2.2.2.1, aAW.2.2.2.2.1, aAW.2.2.2.2.2.1, aAW.2.2.2.2.2.2)
                    else
                      if aR == 11 then
                        (iA N aE aF aJ aG aD aW b4 bY).bind fun aAA =>
                        some (aAA.1, aAA.2.1, aAA.2.2.1, aAA.2.2.2.1, aAA.2.2.2.2.1, aAA.2.2.2.2.2.1, aAA.2.2.2.2.2.2)
                      else
                        if aR == 12 then
                          (cT N aE aF aJ aG aD aW).bind fun aHa =>
                          (nR N aHa aF).bind fun aKB =>
                          some (aKB, aE, aF, aJ, aG, aD, aW)
                        else
                          if aR == 13 then
                            (cT N aE aF aJ aG aD aW).bind fun aGv =>
                            (nR N aGv aJ).bind fun aJM =>
                            some (aJM, aE, aF, aJ, aG, aD, aW)
                          else
                            if aR == 17 then
                              some (84, aE, aF, aJ, aG, aD, aW)
                            else
                              dW N aE aF aJ aW aG aD
def fJ (N : Nat) (qT : List Int) (qU : Int) (o4 : Int) (t7 : Int) (l3 : List (List Int)) (l4 : List aS) : Option (Int × (List Int) × Int × Int × (List (List Int)) × (List aS) × Int) :=
  some (0, qT, qU, o4, l3, l4, t7)
def jC (N : Nat) (aE : List Int) (aF : Int) (aJ : Int) (aG : List (List Int)) (counted : Bool) (c0 : Int) (i3 : List aS) : Option (Int × (List Int) × Int × Int × (List (List Int)) × (List aS) × Int) :=
  if counted then
    (eO N aE aF aJ aG i3 c0 1).bind fun x86 =>
    fJ N x86.1 x86.2.1 x86.2.2.1 x86.2.2.2.2.2 x86.2.2.2.1 x86.2.2.2.2.1
  else
    fJ N aE aF aJ c0 aG i3
def gV (N : Nat) (aE : List Int) (aF : Int) (aJ : Int) (aG : List (List Int)) (aD : List aS) (aR : Int) (bC : List Int) (b4 : Int) (bY : Int) (counted : Bool) (c0 : Int) : Option (Int × (List Int) × Int × Int × (List (List Int)) × (List aS) × Int) :=
  if aR == 14 then
    if counted then
      (cT N aE aF aJ aG aD c0).bind fun x76 =>
      (lM N x76).bind fun x77 =>
      (kY 2 aD [(aS.mk counted x77)]).bind fun x81 =>
      jC N aE aF aJ aG counted c0 x81
    else
      (kY 2 aD [(aS.mk counted false)]).bind fun aBM =>
      jC N aE aF aJ aG counted c0 aBM
  else
    if aR == 15 then
      (dB aD (IntKind.i64.wrap ((aD.length : Int) - 1))).bind fun x99 =>
      fJ N aE aF aJ c0 aG (aD.set (Int.toNat (IntKind.i64.wrap ((aD.length : Int) - 1))) (aS.mk x99.outer (!x99.taken)))
    else
      if aR == 16 then
        (sub aD 0 (IntKind.i64.wrap ((aD.length : Int) - 1))).bind fun aDH =>
        fJ N aE aF aJ c0 aG aDH
      else
        if counted then
          (kK N aE aF aJ aG aD c0 aR bC b4 bY).bind fun x64 =>
          some (x64.1, x64.2.1, x64.2.2.1, x64.2.2.2.1, x64.2.2.2.2.1, x64.2.2.2.2.2.1, x64.2.2.2.2.2.2)
        else
          fJ N aE aF aJ c0 aG aD
def gT (N : Nat) (aE : List Int) (aF : Int) (aJ : Int) (aG : List (List Int)) (aD : List aS) (aW : Int) (aR : Int) (bC : List Int) (b4 : Int) (bY : Int) (counted : Bool) : Option (Int × (List Int) × Int × Int × (List (List Int)) × (List aS) × Int) :=
  if counted then
    (sG N aR bC b4 bY).bind fun x36 =>
    if decide (500 < (IntKind.i64.wrap (aW + x36))) then
      some (83, aE, aF, aJ, aG, aD, IntKind.i64.wrap (aW + x36))
    else
      (r4 N aR bC b4 bY).bind fun x51 =>
      if decide ((aG.length : Int) < x51) then
        some (81, aE, aF, aJ, aG, aD, IntKind.i64.wrap (aW + x36))
      else
        gV N aE aF aJ aG aD aR bC b4 bY counted (IntKind.i64.wrap (aW + x36))
  else
    gV N aE aF aJ aG aD aR bC b4 bY counted aW
def gR (N : Nat) (aE : List Int) (aF : Int) (aJ : Int) (aG : List (List Int)) (aD : List aS) (aW : Int) (aR : Int) (bC : List Int) (b4 : Int) (bY : Int) (x8 : Bool) (x16 : Bool) : Option (Int × (List Int) × Int × Int × (List (List Int)) × (List aS) × Int) :=
  if x16 then
    (dB aD (IntKind.i64.wrap ((aD.length : Int) - 1))).bind fun x27 =>
    gT N aE aF aJ aG aD aW aR bC b4 bY x27.outer
  else
    gT N aE aF aJ aG aD aW aR bC b4 bY x8
def g7 (N : Nat) (aE : List Int) (aF : Int) (aJ : Int) (aG : List (List Int)) (aD : List aS) (aW : Int) (aR : Int) (bC : List Int) (b4 : Int) (bY : Int) : Option (Int × (List Int) × Int × Int × (List (List Int)) × (List aS) × Int) :=
  (l9 N aE aF aJ aG aD aW).bind fun x8 =>
  if aR == 15 then
    gR N aE aF aJ aG aD aW aR bC b4 bY x8 true
  else
    gR N aE aF aJ aG aD aW aR bC b4 bY x8 (aR == 16)
def tT (N : Nat) (c0 : List Int) (qT : Int) (qU : Int) (o4 : Int) (l1 : List (List Int)) (nC : List aS) : Option ((List (List Int)) × Int × Int) :=
  (nQ N l1).bind fun x47 =>
  some (x47, o4, 0)
def kS (N : Nat) (x17 : (List bM) × Int) : Nat → Int → (List Int) → Int → Int → Int → (List (List Int)) → (List aS) → Option (LR ((List Int) × Int × Int × Int × (List (List Int)) × (List aS)) ((List (List Int)) × Int × Int))
  | 0, _, _, _, _, _, _, _ => none
  | m + 1, x35, t7, c0_5, c0_6, c0_7, eZ, l3 =>
    if decide (x35 < (x17.1.length : Int)) then
      (dB x17.1 x35).bind fun x37 =>
      (g7 N t7 c0_5 c0_6 eZ l3 c0_7 x37.Code x37.Data x37.M x37.N).bind fun x40 =>
      if x40.1 != 0 then
        some (.ret ([], 0, x40.1))
      else
        (kS N x17 m) (IntKind.i64.wrap (x35 + 1)) x40.2.1 x40.2.2.1 x40.2.2.2.1 x40.2.2.2.2.2.2 x40.2.2.2.2.1 x40.2.2.2.2.2.1
    else
      some (.brk (t7, c0_5, c0_6, c0_7, eZ, l3))
def tU (N : Nat) (cF : List Int) (cV : Int) (fK : Int) (x17 : (List bM) × Int) (l2 : List (List Int)) : Option ((List (List Int)) × Int × Int) :=
  (kS N x17 N 0 cF cV fK 0 l2 []).bind fun q => match q with
    | .ret v => some v
    | .brk p3 =>
      tT N p3.1 p3.2.1 p3.2.2.1 p3.2.2.2.1 p3.2.2.2.2.1 p3.2.2.2.2.2
def uL (N : Nat) (b : List Int) (stack : List (List Int)) (cF : List Int) (cV : Int) (fK : Int) : Option ((List (List Int)) × Int × Int) :=
  (rY N b).bind fun x17 =>
  if x17.2 != 0 then
    some ([], 0, x17.2)
  else
    (qB N x17.1).bind fun fE =>
    if !fE then
      some ([], 0, 86)
    else
      (o2 N stack).bind fun x27 =>
      if !x27 then
        some ([], 0, 4)
      else
        (nQ N stack).bind fun gX =>
        tU N cF cV fK x17 gX
def nE (N : Nat) (b : List Int) (dI : List (List Int)) (cF : List Int) (cV : Int) (fK : Int) : Option Int :=
  (uL N b dI cF cV fK).bind fun bO =>
  if bO.2.2 != 0 then
    some bO.2.2
  else
    if (bO.1.length : Int) != 1 then
      some 81
    else
      (dB bO.1 0).bind fun x28 =>
      (lM N x28).bind fun jG =>
      if !jG then
        some 84
      else
        some 0
def mU (N : Nat) (aC : Int) (aB : List aO) (aA : List aK) (aH : Int) (vi : Int) (iY : List Int) (fD : Int) (dC : Int) (cD : List Int) (dE : Int) (iV : Bool) (bR : Int) (x17 : (List Int) × Int) (gO : Bool) : Option Int :=
  if gO then
    some 102
  else
    (dB aB vi).bind fun x61 =>
    (nE N cD x61.Witness x17.1 bR (IntKind.i64.wrap (bR - dE))).bind fun x65 =>
    some x65
def tD (N : Nat) (aC : Int) (aB : List aO) (aA : List aK) (aH : Int) (vi : Int) (iY : List Int) (fD : Int) (dC : Int) (cD : List Int) (dE : Int) (iV : Bool) (bR : Int) : Option Int :=
  (qE N aC aB aA aH vi dC cD).bind fun x17 =>
  (b9 32 x17.1).bind fun q =>
  if x17.2 != 0 then
    some x17.2
  else
    (dB aB vi).bind fun x28 =>
    if !(qY x28.Prev.Tx iY ((x28.Prev.Index == fD) && true)) then
      some 101
    else
      if decide (dE < 0) then
        mU N aC aB aA aH vi iY fD dC cD dE iV bR x17 true
      else
        if decide (bR < dE) then
          mU N aC aB aA aH vi iY fD dC cD dE iV bR x17 true
        else
          mU N aC aB aA aH vi iY fD dC cD dE iV bR x17 (decide (16777216 < bR))
def wA (N : Nat) (x18 : Int × Int) : Option (Int × Int) :=
  some (x18.1, 0)
def lE (N : Nat) (aC : Int) (aB : List aO) (aA : List aK) (aH : Int) (l : List bD) (bR : Int) (x18 : Int × Int) : Nat → Int → Option (LR (Unit) (Int × Int))
  | 0, _ => none
  | m + 1, jG =>
    if decide (jG < (l.length : Int)) then
      (dB l jG).bind fun gH =>
      (tD N aC aB aA aH jG gH.Out.Tx gH.Out.Index gH.Output.Value gH.Output.Script gH.Height gH.Coinbase bR).bind fun x39 =>
      if x39 != 0 then
        some (.ret (0, x39))
      else
        (lE N aC aB aA aH l bR x18 m) (IntKind.i64.wrap (jG + 1))
    else
      some (.brk ())
def qO (N : Nat) (aC : Int) (aB : List aO) (aA : List aK) (aH : Int) (l : List bD) (bR : Int) : Option (Int × Int) :=
  (qL N aC aB aA aH).bind fun bO =>
  if bO then
    some (0, 92)
  else
    (r5 N aC aB aA aH l).bind fun x18 =>
    if x18.2 != 0 then
      some (0, x18.2)
    else
      (aAa N aC aB aA aH bR).bind fun x26 =>
      if !x26 then
        some (0, 85)
      else
        (lE N aC aB aA aH l bR x18 N 0).bind fun q => match q with
          | .ret v => some v
          | .brk p2 =>
            wA N x18
def i7 (N : Nat) (x8 : Bool) : Option Bool :=
  some x8
def fP (N : Nat) (aC : Int) (aB : List aO) (aA : List aK) (aH : Int) (l : List bD) (bR : Int) (more : Int) (jG : Bool) : Option Bool :=
  if jG then
    some true
  else
    (qO N aC aB aA aH l bR).bind fun x35 =>
    (qO N aC aB aA aH l (IntKind.i64.wrap (bR + (IntKind.i64.wrap more)))).bind fun x45 =>
    if x35.2 != 0 then
      i7 N true
    else
      if x45.2 == 0 then
        i7 N (x35.1 == x45.1)
      else
        i7 N false
def pN (N : Nat) (aC : Int) (aB : List aO) (aA : List aK) (aH : Int) (l : List bD) (bR : Int) (more : Int) : Option Bool :=
  (yT N).bind fun cJ =>
  if !cJ then
    some false
  else
    (aA9 N aC aB aA aH).bind fun x16 =>
    if !x16 then
      fP N aC aB aA aH l bR more true
    else
      (uR N l 20).bind fun dD =>
      if !dD then
        fP N aC aB aA aH l bR more true
      else
        if decide (bR < 0) then
          fP N aC aB aA aH l bR more true
        else
          fP N aC aB aA aH l bR more (decide (16776960 < bR))
end Go.Proofs.YtagblcjgjlihaaaDoor
set_option linter.unusedSimpArgs false
set_option linter.unusedVariables false
namespace Go.Vm
open Go Go.ChangeShapes Go.WideShapes Go.ChangeAt Go.RowKit
section
variable {P : Program} {t e : TypeId}
theorem aEp {α : Type} {w : World} {E : α → V} : ∀ (l : List α) (vs : List Value), l.length = vs.length → (∀ (i : Nat) (x : α) (v : Value), l[i]? = some x → vs[i]? = some v → VR sF [] w (E x) v) → VCells sF [] w (l.map E) vs
  | [], [], _, _ => nZ
  | [], _ :: _, h, _ => by cases h
  | _ :: _, [], h, _ => by cases h
  | x :: l, v :: vs, h, k => jD (k 0 x v rfl rfl) (aEp l vs (by simpa using h) fun i x' v' h1 h2 => k (i + 1) x' v' (by simpa using h1) (by simpa using h2))
theorem aHr {n : Nat} {k : IntKind} (ht : P.underlying t = some (.array n e)) (he : P.underlying e = some (.int k)) (h1 : P.cellsOf e = 1) (hn : P.cellsOf t = n) :
    sQ P t (fun x : {l : List Int // l.length = n} => ∀ y ∈ x.1, (Lit.int k y).wf = true) (fun x => x.1.map (eI k)) := by
  intro H enc w spare held fuel cs x h
  obtain ⟨xs, m, _, _, hl, hxs, hf⟩ := DataW.trod_array ht h
  rw [hn] at hl
  have each : ∀ i, i < n → ∃ a : Int, (Lit.int k a).wf = true ∧ ∀ v, cs[i]? = some v → VR sF [] w (eI k a) v := by
    intro i hi
    have h2 := hf i hi
    rw [h1, Nat.mul_one, List.getElem?_eq_getElem (by omega)] at h2
    obtain ⟨a, hw, hc⟩ := mQ he h2
    refine ⟨a, hw, fun v hv => ?_⟩
    have e2 : (cs.drop i).take 1 = [v] := by
      obtain ⟨hic, rfl⟩ := List.getElem?_eq_some_iff.1 hv
      rw [List.drop_eq_getElem_cons hic]; rfl
    rw [e2] at hc
    exact aAE hc
  obtain ⟨l, hll, hr⟩ := aAG n each
  refine ⟨⟨l, hll⟩, fun y hy => ?_, aEp l cs (by omega) fun i x v h1 h2 => (hr i x h1).2 v h2⟩
  obtain ⟨i, hi, rfl⟩ := List.mem_iff_getElem.1 hy
  exact (hr i _ (List.getElem?_eq_getElem hi)).1
theorem aJk {n : Nat} {k : IntKind} (ht : P.underlying t = some (.array n e)) (he : P.underlying e = some (.int k)) (h1 : P.cellsOf e = 1) (hn : P.cellsOf t = n) :
    sQ P t (fun x : List Int => x.length = n ∧ ∀ y ∈ x, (Lit.int k y).wf = true) (fun x => x.map (eI k)) := by
  intro H enc w spare held fuel cs x h
  obtain ⟨a, hq, hc⟩ := aHr ht he h1 hn h
  exact ⟨a.1, ⟨a.2, hq⟩, hc⟩
theorem aEA {w : World} : ∀ {A B : List V} {us bs : List Value}, VCells sF [] w A us → VCells sF [] w B bs → VCells sF [] w (A ++ B) (us ++ bs)
  | [], B, us, bs, h, k => by
    unfold VCells at h
    subst h
    exact k
  | a :: A, B, us, bs, h, k => by
    unfold VCells at h
    obtain ⟨v, rest, rfl, h1, h2⟩ := h
    exact jD h1 (aEA h2 k)
theorem iL {w : World} {A B : List V} {cs : List Value} {o n : Nat} (h : VCells sF [] w A ((cs.drop o).take n)) (k : VCells sF [] w B (cs.drop (o + n))) : VCells sF [] w (A ++ B) (cs.drop o) := by
  have e : cs.drop o = (cs.drop o).take n ++ cs.drop (o + n) := by rw [← List.drop_drop, List.take_append_drop]
  rw [e]
  exact aEA h k
theorem uK {w : World} {cs : List Value} {n : Nat} (h : cs.length = n) : VCells sF [] w [] (cs.drop n) := by
  rw [List.drop_eq_nil_of_le (by omega)]; exact nZ
end
end Go.Vm
set_option linter.unusedSimpArgs false
set_option linter.unusedVariables false
namespace Go.Proofs.YtagblcjgjlihaaaDoor
open Go Go.Vm
open Go.ChangeShapes Go.WideShapes Go.ChangeAt Go.RowKit
def wF (x : aY) : Prop := (x.Tx.length = 32 ∧ ∀ z0 ∈ x.Tx, (Lit.int .u8 z0).wf = true) ∧ ((Lit.int .u32 x.Index).wf = true)
set_option maxRecDepth 100000 in
theorem xJ : sQ Tryd.prog 38 wF fG := by
  intro H enc w spare held fuel cs x h
  obtain ⟨xs, n, _, _, hl, hlen, hf⟩ := DataW.trod_struct Tryd.underlying38 h
  rw [show Tryd.prog.cellsOf 38 = 33 by kernel_rfl] at hl
  match xs, hlen, hf with
  | [y0, y1], _, hf =>
    have h0 : DataW.trod enc Tryd.prog w 0 spare held n 36 ((cs.drop 0).take (Tryd.prog.cellsOf 36)) = some y0 := hf 0 _ rfl
    obtain ⟨a0, q0, c0⟩ := (aJk Tryd.underlying36 Tryd.underlying5 (by kernel_rfl) (by kernel_rfl)) h0
    rw [show Tryd.prog.cellsOf 36 = 32 by kernel_rfl] at c0
    have h1 : DataW.trod enc Tryd.prog w 0 spare held n 22 ((cs.drop 32).take (Tryd.prog.cellsOf 22)) = some y1 := hf 1 _ rfl
    obtain ⟨a1, q1, c1⟩ := (mQ Tryd.underlying22) h1
    rw [show Tryd.prog.cellsOf 22 = 1 by kernel_rfl] at c1
    refine ⟨⟨a0, a1⟩, ⟨q0, q1⟩, ?_⟩
    have c := (iL (o := 0) c0 (iL (o := 32) c1 (uK hl)))
    simp only [fG, aGr q0.1]
    exact c
def aC0 (x : aO) : Prop := (wF x.Prev) ∧ ((Lit.int .u32 x.Sequence).wf = true) ∧ (∀ z0 ∈ x.Witness, ∀ z1 ∈ z0, (Lit.int .u8 z1).wf = true)
set_option maxRecDepth 100000 in
theorem aD7 : sQ Tryd.prog 41 aC0 cH := by
  intro H enc w spare held fuel cs x h
  obtain ⟨xs, n, _, _, hl, hlen, hf⟩ := DataW.trod_struct Tryd.underlying41 h
  rw [show Tryd.prog.cellsOf 41 = 35 by kernel_rfl] at hl
  match xs, hlen, hf with
  | [y0, y1, y2], _, hf =>
    have h0 : DataW.trod enc Tryd.prog w 0 spare held n 38 ((cs.drop 0).take (Tryd.prog.cellsOf 38)) = some y0 := hf 0 _ rfl
    obtain ⟨a0, q0, c0⟩ := xJ h0
    rw [show Tryd.prog.cellsOf 38 = 33 by kernel_rfl] at c0
    have h1 : DataW.trod enc Tryd.prog w 0 spare held n 22 ((cs.drop 33).take (Tryd.prog.cellsOf 22)) = some y1 := hf 1 _ rfl
    obtain ⟨a1, q1, c1⟩ := (mQ Tryd.underlying22) h1
    rw [show Tryd.prog.cellsOf 22 = 1 by kernel_rfl] at c1
    have h2 : DataW.trod enc Tryd.prog w 0 spare held n 39 ((cs.drop 34).take (Tryd.prog.cellsOf 39)) = some y2 := hf 2 _ rfl
    obtain ⟨a2, q2, c2⟩ := (qK Tryd.underlying39 (qK Tryd.underlying42 (mQ Tryd.underlying5) (by kernel_rfl) (by decide) (aDj (E := (eI .u8)) fun _ => rfl)) (by kernel_rfl) (by decide) (aDj (E := (eL 1 (eI .u8))) fun _ => rfl)) h2
    rw [show Tryd.prog.cellsOf 39 = 1 by kernel_rfl] at c2
    refine ⟨⟨a0, a1, a2⟩, ⟨q0, q1, q2⟩, ?_⟩
    have c := (iL (o := 0) c0 (iL (o := 33) c1 (iL (o := 34) c2 (uK hl))))
    exact c
def zK (x : aK) : Prop := ((Lit.int .i64 x.Value).wf = true) ∧ (∀ z0 ∈ x.Script, (Lit.int .u8 z0).wf = true)
set_option maxRecDepth 100000 in
theorem aAk : sQ Tryd.prog 44 zK eF := by
  intro H enc w spare held fuel cs x h
  obtain ⟨xs, n, _, _, hl, hlen, hf⟩ := DataW.trod_struct Tryd.underlying44 h
  rw [show Tryd.prog.cellsOf 44 = 2 by kernel_rfl] at hl
  match xs, hlen, hf with
  | [y0, y1], _, hf =>
    have h0 : DataW.trod enc Tryd.prog w 0 spare held n 2 ((cs.drop 0).take (Tryd.prog.cellsOf 2)) = some y0 := hf 0 _ rfl
    obtain ⟨a0, q0, c0⟩ := (mQ Tryd.underlying2) h0
    rw [show Tryd.prog.cellsOf 2 = 1 by kernel_rfl] at c0
    have h1 : DataW.trod enc Tryd.prog w 0 spare held n 42 ((cs.drop 1).take (Tryd.prog.cellsOf 42)) = some y1 := hf 1 _ rfl
    obtain ⟨a1, q1, c1⟩ := (qK Tryd.underlying42 (mQ Tryd.underlying5) (by kernel_rfl) (by decide) (aDj (E := (eI .u8)) fun _ => rfl)) h1
    rw [show Tryd.prog.cellsOf 42 = 1 by kernel_rfl] at c1
    refine ⟨⟨a0, a1⟩, ⟨q0, q1⟩, ?_⟩
    have c := (iL (o := 0) c0 (iL (o := 1) c1 (uK hl)))
    exact c
structure aBs where
  Version : Int
  Inputs : List aO
  Outputs : List aK
  Lock : Int
abbrev wB (x : aBs) : List V := [(eI .u32 x.Version), (.row none 35 (x.Inputs.map aL)), (.row none 2 (x.Outputs.map aM)), (eI .u32 x.Lock)]
@[simp] theorem aMf {f : Nat → Nat} (l : List aBs) : V.rns f (l.flatMap wB) = l.flatMap wB := kA (fun _ => rfl) l
@[simp] theorem aLL {f : Nat → Nat} (x : aBs) : V.rns f (wB x) = wB x := rfl
def aJ8 (x : aBs) : Prop := ((Lit.int .u32 x.Version).wf = true) ∧ (∀ z0 ∈ x.Inputs, aC0 z0) ∧ (∀ z0 ∈ x.Outputs, zK z0) ∧ ((Lit.int .u32 x.Lock).wf = true)
set_option maxRecDepth 100000 in
theorem aGU : sQ Tryd.prog 26 aJ8 wB := by
  intro H enc w spare held fuel cs x h
  obtain ⟨xs, n, _, _, hl, hlen, hf⟩ := DataW.trod_struct Tryd.underlying26 h
  rw [show Tryd.prog.cellsOf 26 = 4 by kernel_rfl] at hl
  match xs, hlen, hf with
  | [y0, y1, y2, y3], _, hf =>
    have h0 : DataW.trod enc Tryd.prog w 0 spare held n 22 ((cs.drop 0).take (Tryd.prog.cellsOf 22)) = some y0 := hf 0 _ rfl
    obtain ⟨a0, q0, c0⟩ := (mQ Tryd.underlying22) h0
    rw [show Tryd.prog.cellsOf 22 = 1 by kernel_rfl] at c0
    have h1 : DataW.trod enc Tryd.prog w 0 spare held n 23 ((cs.drop 1).take (Tryd.prog.cellsOf 23)) = some y1 := hf 1 _ rfl
    obtain ⟨a1, q1, c1⟩ := (qK Tryd.underlying23 aD7 (by kernel_rfl) (by decide) (aDJ (K := 35) (C := cH) (fun _ => rfl) (fun _ => rfl))) h1
    rw [show Tryd.prog.cellsOf 23 = 1 by kernel_rfl] at c1
    have h2 : DataW.trod enc Tryd.prog w 0 spare held n 24 ((cs.drop 2).take (Tryd.prog.cellsOf 24)) = some y2 := hf 2 _ rfl
    obtain ⟨a2, q2, c2⟩ := (qK Tryd.underlying24 aAk (by kernel_rfl) (by decide) (aDJ (K := 2) (C := eF) (fun _ => rfl) (fun _ => rfl))) h2
    rw [show Tryd.prog.cellsOf 24 = 1 by kernel_rfl] at c2
    have h3 : DataW.trod enc Tryd.prog w 0 spare held n 22 ((cs.drop 3).take (Tryd.prog.cellsOf 22)) = some y3 := hf 3 _ rfl
    obtain ⟨a3, q3, c3⟩ := (mQ Tryd.underlying22) h3
    rw [show Tryd.prog.cellsOf 22 = 1 by kernel_rfl] at c3
    refine ⟨⟨a0, a1, a2, a3⟩, ⟨q0, q1, q2, q3⟩, ?_⟩
    have c := (iL (o := 0) c0 (iL (o := 1) c1 (iL (o := 2) c2 (iL (o := 3) c3 (uK hl)))))
    exact c
def aIw (x : bD) : Prop := (wF x.Out) ∧ (zK x.Output) ∧ ((Lit.int .i64 x.Height).wf = true) ∧ (True)
set_option maxRecDepth 100000 in
theorem aE4 : sQ Tryd.prog 46 aIw eW := by
  intro H enc w spare held fuel cs x h
  obtain ⟨xs, n, _, _, hl, hlen, hf⟩ := DataW.trod_struct Tryd.underlying46 h
  rw [show Tryd.prog.cellsOf 46 = 37 by kernel_rfl] at hl
  match xs, hlen, hf with
  | [y0, y1, y2, y3], _, hf =>
    have h0 : DataW.trod enc Tryd.prog w 0 spare held n 38 ((cs.drop 0).take (Tryd.prog.cellsOf 38)) = some y0 := hf 0 _ rfl
    obtain ⟨a0, q0, c0⟩ := xJ h0
    rw [show Tryd.prog.cellsOf 38 = 33 by kernel_rfl] at c0
    have h1 : DataW.trod enc Tryd.prog w 0 spare held n 44 ((cs.drop 33).take (Tryd.prog.cellsOf 44)) = some y1 := hf 1 _ rfl
    obtain ⟨a1, q1, c1⟩ := aAk h1
    rw [show Tryd.prog.cellsOf 44 = 2 by kernel_rfl] at c1
    have h2 : DataW.trod enc Tryd.prog w 0 spare held n 3 ((cs.drop 35).take (Tryd.prog.cellsOf 3)) = some y2 := hf 2 _ rfl
    obtain ⟨a2, q2, c2⟩ := (mQ Tryd.underlying3) h2
    rw [show Tryd.prog.cellsOf 3 = 1 by kernel_rfl] at c2
    have h3 : DataW.trod enc Tryd.prog w 0 spare held n 4 ((cs.drop 36).take (Tryd.prog.cellsOf 4)) = some y3 := hf 3 _ rfl
    obtain ⟨a3, q3, c3⟩ := (aIP Tryd.underlying4) h3
    rw [show Tryd.prog.cellsOf 4 = 1 by kernel_rfl] at c3
    refine ⟨⟨a0, a1, a2, a3⟩, ⟨q0, q1, q2, q3⟩, ?_⟩
    have c := (iL (o := 0) c0 (iL (o := 33) c1 (iL (o := 35) c2 (iL (o := 36) c3 (uK hl)))))
    exact c
end Go.Proofs.YtagblcjgjlihaaaDoor
set_option linter.unusedSimpArgs false
set_option linter.unusedVariables false
namespace Go.Vm
open Go
def iN (l : List Nat) : List Int := l.map fun (x : Nat) => (x : Int)
theorem aHm (l : List Nat) : (iN l).length = l.length := by simp [iN]
theorem aJr {d : List Int} (h : Byt d) : iN (d.map Int.toNat) = d ∧ ∀ x ∈ d.map Int.toNat, x < 256 := by
  constructor
  · simp only [iN, List.map_map]
    conv => rhs; rw [← List.map_id d]
    refine List.map_congr_left fun x hx => ?_
    have := h x hx
    simp only [Function.comp, id]; omega
  · intro x hx
    simp only [List.mem_map] at hx
    obtain ⟨y, hy, rfl⟩ := hx
    have := h y hy
    omega
theorem aK5 {d : List Int} (h : Byt d) : ∃ l : List Nat, d = iN l ∧ ∀ x ∈ l, x < 256 := ⟨_, (aJr h).1.symm, (aJr h).2⟩
theorem i1 {j : Nat} (hj : j ≤ 100000) : IntKind.i64.wrap ((j : Int) + 1) = ((j + 1 : Nat) : Int) := by rw [fA (by omega) (by omega)]; simp
theorem dT {j n : Nat} (h : j < n) : decide ((j : Int) < (n : Int)) = true := by simpa using h
theorem dF {j n : Nat} (h : ¬ j < n) : decide ((j : Int) < (n : Int)) = false := by simp; omega
end Go.Vm
set_option linter.unusedSimpArgs false
set_option linter.unusedVariables false
namespace Go.Vm
open Go
theorem p9 : 100000000 ≤ pC := by decide
theorem oJ {l m : List Int} (h : l.length + m.length ≤ 100000000) : kY 1 l m = some (l ++ m) := by
  have := p9
  exact aA0 (by omega)
theorem rP {α : Type} {f : Nat → Int → List Int → Option (List Int)} {xs : List α} {g : α → List Int} {B : Nat} (hn : xs.length ≤ 100000)
    (hs : ∀ m j acc (hj : j < xs.length), acc.length + (g xs[j]).length ≤ B → f (m + 1) (j : Int) acc = f m ((j + 1 : Nat) : Int) (acc ++ g xs[j])) (he : ∀ m j acc, xs.length ≤ j → f (m + 1) (j : Int) acc = some acc) :
    ∀ (m j : Nat) (acc : List Int), xs.length - j < m → j ≤ xs.length → acc.length + ((xs.drop j).flatMap g).length ≤ B → f m (j : Int) acc = some (acc ++ (xs.drop j).flatMap g)
  | 0, j, acc, hm, _, _ => by omega
  | m + 1, j, acc, hm, hj, hB => by
    by_cases h : j < xs.length
    · rw [List.drop_eq_getElem_cons h, List.flatMap_cons, List.length_append] at hB
      rw [hs m j acc h (by omega), rP hn hs he m (j + 1) _ (by omega) (by omega) (by rw [List.length_append]; omega), List.drop_eq_getElem_cons h, List.flatMap_cons, List.append_assoc]
    · rw [he m j acc (by omega), List.drop_eq_nil_of_le (by omega)]; simp
theorem mV {α R : Type} {f : Nat → Int → Option (LR Unit R)} {xs : List α} {p : α → Bool} {r : R}
    (hs : ∀ m j (hj : j < xs.length), f (m + 1) (j : Int) = if p xs[j] = true then f m ((j + 1 : Nat) : Int) else some (.ret r)) (he : ∀ m j, xs.length ≤ j → f (m + 1) (j : Int) = some (.brk ())) :
    ∀ (m j : Nat), xs.length - j < m → j ≤ xs.length → f m (j : Int) = some (if (xs.drop j).all p = true then .brk () else .ret r)
  | 0, j, hm, _ => by omega
  | m + 1, j, hm, hj => by
    by_cases h : j < xs.length
    · rw [hs m j h, mV hs he m (j + 1) (by omega) (by omega), List.drop_eq_getElem_cons h, List.all_cons]
      cases p xs[j] <;> simp
    · rw [he m j (by omega), List.drop_eq_nil_of_le (by omega)]; simp
theorem aFM {R : Type} {f : Nat → Int → Option (LR Unit R)} {n : Nat} {p : Nat → Bool} {r : R}
    (hs : ∀ m j, j < n → f (m + 1) (j : Int) = if p j = true then f m ((j + 1 : Nat) : Int) else some (.ret r)) (he : ∀ m j, n ≤ j → f (m + 1) (j : Int) = some (.brk ())) :
    ∀ (m j : Nat), n - j < m → j ≤ n → f m (j : Int) = some (if (List.range' j (n - j)).all p = true then .brk () else .ret r)
  | 0, j, hm, _ => by omega
  | m + 1, j, hm, hj => by
    by_cases h : j < n
    · rw [hs m j h, aFM hs he m (j + 1) (by omega) (by omega), show n - j = (n - (j + 1)) + 1 by omega, List.range'_succ, List.all_cons]
      cases p j
      · rfl
      · simp only [Bool.true_and, if_true]
    · rw [he m j (by omega), show n - j = 0 by omega]; simp
theorem aFI {α σ : Type} {f : Nat → σ → Int → Option σ} {xs : List α} {g : σ → α → σ}
    (hs : ∀ m s j (hj : j < xs.length), f (m + 1) s (j : Int) = f m (g s xs[j]) ((j + 1 : Nat) : Int)) (he : ∀ m s j, xs.length ≤ j → f (m + 1) s (j : Int) = some s) :
    ∀ (m : Nat) (s : σ) (j : Nat), xs.length - j < m → j ≤ xs.length → f m s (j : Int) = some ((xs.drop j).foldl g s)
  | 0, s, j, hm, _ => by omega
  | m + 1, s, j, hm, hj => by
    by_cases h : j < xs.length
    · rw [hs m s j h, aFI hs he m _ (j + 1) (by omega) (by omega), List.drop_eq_getElem_cons h, List.foldl_cons]
    · rw [he m s j (by omega), List.drop_eq_nil_of_le (by omega)]; rfl
end Go.Vm
set_option linter.unusedSimpArgs false
set_option linter.unusedVariables false
namespace Go.Proofs.YtagblcjgjlihaaaDoor
open Go Go.Vm
def shV (v : Int) (i : Nat) : Int := IntKind.u8.wrap (v.fdiv (2 ^ (min (8 * i) 64)))
def uZ (w : Nat) (v : Int) : List Int := (List.range w).map (shV v)
theorem t0 (w : Nat) (v : Int) : (uZ w v).length = w := by simp [uZ]
theorem aMZ (v : Int) (i : Nat) (hi : i ≤ 100) : ∃ y, shr .u64 v (IntKind.i64.wrap (8 * (i : Int))) = some y ∧ IntKind.u8.wrap y = shV v i := by
  refine ⟨_, ?_, rfl⟩
  rw [fA (by omega) (by omega)]
  unfold shr
  rw [if_neg (by omega)]
  congr 3
theorem aJ7 (w : Nat) (v : Int) (j : Nat) (hj : j < w) : (((List.range j).map (shV v)) ++ List.replicate (w - j) 0).set j (shV v j) = ((List.range (j + 1)).map (shV v)) ++ List.replicate (w - (j + 1)) 0 := by
  rw [List.set_append_right _ _ (by simp), show w - j = (w - (j + 1)) + 1 by omega, List.replicate_succ, List.range_succ, List.map_append, List.append_assoc]
  simp
theorem aGX {f : Nat → Int → List Int → Option (List Int)} (w : Nat) (v : Int) (hw : w ≤ 100)
    (hs : ∀ m j acc, j < w → acc.length = w → f (m + 1) (j : Int) acc = f m ((j + 1 : Nat) : Int) (acc.set j (shV v j))) (he : ∀ m acc, acc.length = w → f (m + 1) (w : Int) acc = some acc) :
    ∀ (m j : Nat), w - j < m → j ≤ w → f m (j : Int) (((List.range j).map (shV v)) ++ List.replicate (w - j) 0) = some (uZ w v)
  | 0, j, hm, _ => by omega
  | m + 1, j, hm, hj => by
    by_cases h : j < w
    · rw [hs m j _ h (by simp; omega), aJ7 w v j h]
      exact aGX w v hw hs he m (j + 1) (by omega) (by omega)
    · have : j = w := by omega
      subst this
      rw [he m _ (by simp), Nat.sub_self]
      simp [uZ]
theorem aCq (N : Nat) (hN : 70000 ≤ N) (v : Int) (w : Nat) (hw : w ≤ 100) : nG N v (w : Int) = some (uZ w v) := by
  have hmk : mks 1 (0 : Int) (w : Int) = some (List.replicate w 0) := aJB (by have := p9; omega)
  have := aGX (f := i5 N v (w : Int)) w v hw (fun m j acc hj hl => by
      obtain ⟨y, h1, h2⟩ := aMZ v j (by omega)
      rw [i5, dT hj, if_pos rfl, h1, cY acc (by omega : j < acc.length)]
      simp only [Option.bind_some, Int.toNat_natCast, h2, i1 (show j ≤ 100000 by omega)])
    (fun m acc hl => by rw [i5, dF (Nat.lt_irrefl w)]; rfl) N 0 (by omega) (by omega)
  simp only [nG, hmk, Option.bind_some, qX]
  simp only [List.range_zero, List.map_nil, List.nil_append, Nat.sub_zero] at this
  rw [show ((0 : Nat) : Int) = 0 from rfl] at this
  rw [this]; rfl
theorem pE (N : Nat) (b v : List Int) (h : b.length + v.length ≤ 50000000) : fR N b v = some (b ++ v) := by
  have hmk : mks 1 (0 : Int) (IntKind.i64.wrap ((b.length : Int) + (v.length : Int))) = some (List.replicate (b.length + v.length) 0) := by
    rw [fA (by omega) (by omega), show (b.length : Int) + (v.length : Int) = ((b.length + v.length : Nat) : Int) by omega]
    exact aJB (by have := p9; omega)
  simp only [fR, hmk, Option.bind_some, List.take_zero]
  rw [oJ (by simp; omega)]
  simp only [Option.bind_some, List.nil_append]
  rw [oJ (by omega)]; rfl
def rO (v : Int) : List Int := uZ 4 (IntKind.u64.wrap v)
def aKk (v : Int) : List Int := uZ 8 v
theorem iE (v : Int) : (rO v).length = 4 := t0 _ _
theorem aBH (v : Int) : (aKk v).length = 8 := t0 _ _
section
variable (N : Nat) (hN : 70000 ≤ N)
include hN
theorem aFh (b : List Int) (v : Int) (h : b.length ≤ 40000000) : fW N b v = some (b ++ rO v) := by
  simp only [fW, show (4 : Int) = ((4 : Nat) : Int) from rfl, aCq N hN _ 4 (by omega), Option.bind_some]
  rw [pE N _ _ (by rw [t0]; omega)]; rfl
theorem aMe (b : List Int) (v : Int) (h : b.length ≤ 40000000) : j9 N b v = some (b ++ aKk v) := by
  simp only [j9, show (8 : Int) = ((8 : Nat) : Int) from rfl, aCq N hN _ 8 (by omega), Option.bind_some]
  rw [pE N _ _ (by rw [t0]; omega)]; rfl
end
theorem wu (k : IntKind) (n : Nat) (hk : k.signed = false) (h : (n : Int) < 2 ^ k.bits) : k.wrap (n : Int) = n := by
  rw [aEq hk]; exact Int.emod_eq_of_lt (by omega) h
def szB (n : Nat) : List Int := if n < 253 then uZ 1 n else if n < 65536 then 253 :: uZ 2 n else 254 :: uZ 4 n
theorem sU (n : Nat) : 1 ≤ (szB n).length ∧ (szB n).length ≤ 5 := by
  unfold szB
  split
  · simp [t0]
  · split <;> simp [t0]
theorem aML (n : Nat) (h : n < 256) : uZ 1 (n : Int) = [IntKind.u8.wrap (n : Int)] := by
  simp [uZ, shV, List.range_succ]
section
variable (N : Nat) (hN : 70000 ≤ N)
include hN
theorem aGi (b : List Int) (n : Nat) (hn : n ≤ 1000000) (h : b.length ≤ 30000000) : iJ N b (IntKind.u64.wrap (n : Int)) = some (b ++ szB n) := by
  rw [wu .u64 n rfl (by simp [IntKind.bits]; omega)]
  unfold iJ szB
  by_cases h1 : n < 253
  · have e1 : decide ((n : Int) < 253) = true := decide_eq_true (by omega)
    rw [e1, if_pos rfl, if_pos h1, pE N _ _ (by simp; omega), aML n (by omega)]; rfl
  · have e1 : decide ((n : Int) < 253) = false := decide_eq_false (by omega)
    rw [e1, if_neg h1]
    by_cases h2 : n < 65536
    · have e2 : decide ((n : Int) < 65536) = true := decide_eq_true (by omega)
      simp only [e2, Bool.false_eq_true, if_false, if_true, if_pos h2]
      rw [pE N _ _ (by simp; omega)]
      simp only [Option.bind_some, rB, show (2 : Int) = ((2 : Nat) : Int) from rfl, aCq N hN _ 2 (by omega)]
      rw [wu .u16 n rfl (by simp [IntKind.bits]; omega), wu .u64 n rfl (by simp [IntKind.bits]; omega), pE N _ _ (by simp [t0]; omega)]
      simp
    · have e2 : decide ((n : Int) < 65536) = false := decide_eq_false (by omega)
      have e3 : decide ((n : Int) < 4294967296) = true := decide_eq_true (by omega)
      simp only [e2, e3, Bool.false_eq_true, if_false, if_true, if_neg h2]
      rw [pE N _ _ (by simp; omega)]
      simp only [Option.bind_some]
      rw [aFh N hN (b ++ [254]) _ (by simp; omega), wu .u32 n rfl (by simp [IntKind.bits]; omega)]
      simp only [rO, wu .u64 n rfl (show (n : Int) < 2 ^ IntKind.u64.bits by simp [IntKind.bits]; omega), Option.bind_some, List.append_assoc]
      rfl
theorem aGq (b s : List Int) (hs : s.length ≤ 1000000) (h : b.length ≤ 30000000) : iX N b s = some (b ++ (szB s.length ++ s)) := by
  have := sU s.length
  simp only [iX, aGi N hN b _ hs (by omega), Option.bind_some]
  rw [pE N _ _ (by rw [List.length_append]; omega), Option.bind_some, List.append_assoc]
theorem aJH (t : List Int) (i : Int) (ht : t.length = 32) : wD N t i = some (t ++ rO i) := by
  simp only [wD, pW, b9, if_pos ht, Option.bind_some]
  rw [pE N _ _ (by simp; omega)]
  simp only [Option.bind_some, List.nil_append]
  rw [aFh N hN _ _ (by omega)]; rfl
def pG (o : aK) : List Int := aKk (IntKind.u64.wrap o.Value) ++ (szB o.Script.length ++ o.Script)
end
end Go.Proofs.YtagblcjgjlihaaaDoor
set_option linter.unusedSimpArgs false
set_option linter.unusedVariables false
set_option linter.unusedSectionVars false
namespace Go.Proofs.YtagblcjgjlihaaaDoor
open Go Go.Vm
structure zE (ins : List aO) (outs : List aK) : Prop where
  ni : ins.length ≤ 70
  no : outs.length ≤ 70
  wit : ∀ x ∈ ins, x.Witness.length ≤ 40 ∧ ∀ w ∈ x.Witness, w.length ≤ 600
  scr : ∀ o ∈ outs, o.Script.length ≤ 600
  tx : ∀ x ∈ ins, x.Prev.Tx.length = 32
def inB (x : aO) : List Int := (x.Prev.Tx ++ rO x.Prev.Index) ++ rO x.Sequence
def itB (w : List Int) : List Int := szB w.length ++ w
def wiB (x : aO) : List Int := szB x.Witness.length ++ x.Witness.flatMap itB
def aLO (v : Int) (ins : List aO) (outs : List aK) (lock : Int) (wit : Bool) : List Int :=
  ((((rO v ++ szB ins.length) ++ ins.flatMap inB) ++ szB outs.length) ++ outs.flatMap pG) ++ rO lock ++ (if wit then ins.flatMap wiB else [])
theorem uE {α : Type} {g : α → List Int} {c : Nat} : ∀ (l : List α), (∀ x ∈ l, (g x).length ≤ c) → (l.flatMap g).length ≤ l.length * c
  | [], _ => by simp
  | x :: l, h => by
    have h1 := h x (by simp)
    have h2 := uE l (fun y hy => h y (by simp [hy]))
    rw [List.flatMap_cons, List.length_append, List.length_cons, Nat.add_mul, Nat.one_mul]; omega
theorem aJD {w : List Int} (h : w.length ≤ 600) : (itB w).length ≤ 605 := by have := sU w.length; simp only [itB, List.length_append]; omega
theorem aLT {x : aO} (h : x.Witness.length ≤ 40 ∧ ∀ w ∈ x.Witness, w.length ≤ 600) : (wiB x).length ≤ 24205 := by
  have h1 := sU x.Witness.length
  have h2 := uE (g := itB) (c := 605) x.Witness (fun w hw => aJD (h.2 w hw))
  have h3 := Nat.mul_le_mul_right 605 h.1
  simp only [wiB, List.length_append]; omega
theorem aHQ {x : aO} (h : x.Prev.Tx.length = 32) : (inB x).length = 40 := by simp [inB, iE, h]
theorem aFb {o : aK} (h : o.Script.length ≤ 600) : (pG o).length ≤ 613 := by
  have := sU o.Script.length
  simp only [pG, List.length_append, aBH]; omega
theorem aH2 {ins : List aO} {outs : List aK} (K : zE ins outs) : (ins.flatMap inB).length ≤ 2800 := by
  have := uE (g := inB) (c := 40) ins (fun x hx => Nat.le_of_eq (aHQ (K.tx x hx)))
  have := Nat.mul_le_mul_right 40 K.ni
  omega
theorem aBp {ins : List aO} {outs : List aK} (K : zE ins outs) : (outs.flatMap pG).length ≤ 42910 := by
  have := uE (g := pG) (c := 613) outs (fun x hx => aFb (K.scr x hx))
  have := Nat.mul_le_mul_right 613 K.no
  omega
theorem aLo {ins : List aO} {outs : List aK} (K : zE ins outs) : (ins.flatMap wiB).length ≤ 1694350 := by
  have := uE (g := wiB) (c := 24205) ins (fun x hx => aLT (K.wit x hx))
  have := Nat.mul_le_mul_right 24205 K.ni
  omega
section
variable (N : Nat) (hN : 70000 ≤ N) {v : Int} {ins : List aO} {outs : List aK} {lock : Int} (K : zE ins outs)
include hN K
theorem aL8 (b : Bool) (acc : List Int) (h : acc.length ≤ 100000) : kM N v ins outs lock b N 0 acc = some (acc ++ ins.flatMap inB) := by
  have hn := K.ni
  have hl := aH2 K
  refine rP (f := kM N v ins outs lock b) (xs := ins) (g := inB) (B := 200000) (by omega) (fun m j acc hj hB => ?_) (fun m j acc hj => ?_) N 0 acc (by omega) (by omega) (by rw [List.drop_zero]; omega)
  · have ht := K.tx _ (List.getElem_mem hj)
    rw [aHQ ht] at hB
    rw [kM, dT hj, if_pos rfl, cY ins hj]
    simp only [Option.bind_some, aJH N hN _ _ ht]
    rw [oJ (by simp [iE]; omega)]
    simp only [Option.bind_some, aFh N hN _ _ (show ([] : List Int).length ≤ 40000000 by simp), List.nil_append]
    rw [oJ (by simp [iE]; omega)]
    simp only [Option.bind_some, i1 (show j ≤ 100000 by omega), inB, List.append_assoc]
  · rw [kM, dF (by omega)]; rfl
theorem aL7 (b : Bool) (acc : List Int) (h : acc.length ≤ 100000) : j6 N v ins outs lock b N 0 acc = some (acc ++ outs.flatMap pG) := by
  have hn := K.no
  have hl := aBp K
  refine rP (f := j6 N v ins outs lock b) (xs := outs) (g := pG) (B := 200000) (by omega) (fun m j acc hj hB => ?_) (fun m j acc hj => ?_) N 0 acc (by omega) (by omega) (by rw [List.drop_zero]; omega)
  · have ht := K.scr _ (List.getElem_mem hj)
    have hs := sU outs[j].Script.length
    rw [j6, dT hj, if_pos rfl, cY outs hj]
    simp only [Option.bind_some, aMe N hN _ _ (show ([] : List Int).length ≤ 40000000 by simp), List.nil_append]
    rw [oJ (by rw [aBH]; omega)]
    simp only [Option.bind_some, aGq N hN [] _ (show outs[j].Script.length ≤ 1000000 by omega) (by simp), List.nil_append]
    rw [oJ (by simp only [List.length_append, aBH]; omega)]
    simp only [Option.bind_some, i1 (show j ≤ 100000 by omega), pG, List.append_assoc]
  · rw [j6, dF (by omega)]; rfl
theorem aL6 (x : Int) (w : aO) (hw : w.Witness.length ≤ 40 ∧ ∀ z ∈ w.Witness, z.length ≤ 600) (acc : List Int) (h : acc.length ≤ 5000000) : kJ N ins x w N 0 acc = some (acc ++ w.Witness.flatMap itB) := by
  have hl := uE (g := itB) (c := 605) w.Witness (fun z hz => aJD (hw.2 z hz))
  have := Nat.mul_le_mul_right 605 hw.1
  refine rP (f := kJ N ins x w) (xs := w.Witness) (g := itB) (B := 6000000) (by omega) (fun m j acc hj hB => ?_) (fun m j acc hj => ?_) N 0 acc (by omega) (by omega) (by rw [List.drop_zero]; omega)
  · have ht := hw.2 _ (List.getElem_mem hj)
    rw [kJ, dT hj, if_pos rfl, cY w.Witness hj]
    simp only [Option.bind_some, aGq N hN [] _ (show w.Witness[j].length ≤ 1000000 by omega) (by simp), List.nil_append]
    rw [oJ (by simp only [itB] at hB; omega)]
    simp only [Option.bind_some, i1 (show j ≤ 100000 by omega), itB]
  · rw [kJ, dF (by omega)]; rfl
theorem aL4 (acc : List Int) (h : acc.length ≤ 1000000) : i8 N ins N 0 acc = some (acc ++ ins.flatMap wiB) := by
  have hn := K.ni
  have hl := aLo K
  refine rP (f := i8 N ins) (xs := ins) (g := wiB) (B := 4000000) (by omega) (fun m j acc hj hB => ?_) (fun m j acc hj => ?_) N 0 acc (by omega) (by omega) (by rw [List.drop_zero]; omega)
  · have ht := K.wit _ (List.getElem_mem hj)
    have hs := sU ins[j].Witness.length
    rw [i8, dT hj, if_pos rfl, cY ins hj]
    simp only [Option.bind_some, aGi N hN [] _ (show ins[j].Witness.length ≤ 1000000 by omega) (by simp), List.nil_append]
    rw [oJ (by omega)]
    simp only [Option.bind_some]
    rw [aL6 N hN K _ _ ht _ (by rw [List.length_append]; omega)]
    simp only [Option.bind_some, vK, i1 (show j ≤ 100000 by omega), wiB, List.append_assoc]
  · rw [i8, dF (by omega)]; rfl
theorem aFx : uC N v ins outs lock true = some (aLO v ins outs lock true) := by
  have hn := K.ni
  have ho := K.no
  have h1 := sU ins.length
  have h2 := sU outs.length
  have h3 := aH2 K
  have h4 := aBp K
  simp only [uC, aFh N hN [] _ (by simp), Option.bind_some, List.nil_append, aGi N hN [] _ (show ins.length ≤ 1000000 by omega) (by simp)]
  rw [oJ (by rw [iE]; omega)]
  simp only [Option.bind_some]
  rw [aL8 N hN K _ _ (by rw [List.length_append, iE]; omega)]
  simp only [Option.bind_some, vC, aGi N hN [] _ (show outs.length ≤ 1000000 by omega) (by simp), List.nil_append]
  rw [oJ (by simp only [List.length_append, iE]; omega)]
  simp only [Option.bind_some]
  rw [aL7 N hN K _ _ (by simp only [List.length_append, iE]; omega)]
  simp only [Option.bind_some, vN, aFh N hN [] _ (show ([] : List Int).length ≤ 40000000 by simp), List.nil_append]
  rw [oJ (by simp only [List.length_append, iE]; omega)]
  simp only [Option.bind_some, Bool.not_true, Bool.false_eq_true, if_false]
  rw [aL4 N hN K _ (by simp only [List.length_append, iE]; omega)]
  rfl
end
end Go.Proofs.YtagblcjgjlihaaaDoor
set_option linter.unusedSimpArgs false
set_option linter.unusedVariables false
set_option linter.unusedSectionVars false
set_option maxRecDepth 4000
namespace Go.Proofs.YtagblcjgjlihaaaDoor
open Go Go.Vm
theorem nle (a b : Nat) : decide ((a : Int) < (b : Int)) = !decide (b ≤ a) := by
  by_cases h : a < b
  · rw [decide_eq_true (by omega), decide_eq_false (by omega)]; rfl
  · rw [decide_eq_false (by omega), decide_eq_true (by omega)]; rfl
theorem dle (n : Nat) : decide ((n : Int) ≤ 20000) = decide (n ≤ 20000) := by
  by_cases h : n ≤ 20000
  · rw [decide_eq_true h, decide_eq_true (by omega)]
  · rw [decide_eq_false h, decide_eq_false (by omega)]
theorem aKD (N : Nat) (hN : 70000 ≤ N) (l : List (List Int)) (n k : Nat) (hn : n ≤ 1000) : vI N l (n : Int) (k : Int) = some (decide (l.length ≤ n) && l.all fun w => decide (w.length ≤ k)) := by
  unfold vI
  rw [nle]
  by_cases h : l.length ≤ n
  · rw [decide_eq_true h]
    simp only [Bool.not_true, Bool.false_eq_true, if_false, Bool.true_and]
    have := mV (f := kT N l (k : Int)) (xs := l) (p := fun w => decide (w.length ≤ k)) (r := false) (fun m j hj => by
        rw [kT, dT hj, if_pos rfl, cY l hj]
        simp only [Option.bind_some, nle, i1 (show j ≤ 100000 by omega)]
        cases decide (l[j].length ≤ k) <;> rfl) (fun m j hj => by rw [kT, dF (by omega)]; rfl) N 0 (by omega) (by omega)
    rw [show ((0 : Nat) : Int) = 0 from rfl, List.drop_zero] at this
    rw [this]
    cases l.all fun w => decide (w.length ≤ k) <;> rfl
  · rw [decide_eq_false h]; rfl
def aEk (x : aO) : Bool := decide (x.Witness.length ≤ 40) && x.Witness.all fun w => decide (w.length ≤ 600)
def aEz (ins : List aO) (outs : List aK) : Bool := decide (ins.length ≤ 70) && decide (outs.length ≤ 70) && ins.all aEk && outs.all fun o => decide (o.Script.length ≤ 600)
theorem aJI (N : Nat) (hN : 70000 ≤ N) (v : Int) (ins : List aO) (outs : List aK) (lock : Int) : aA9 N v ins outs lock = some (aEz ins outs) := by
  unfold aA9 aEz
  rw [show (70 : Int) = ((70 : Nat) : Int) from rfl, nle, nle]
  by_cases h : ins.length ≤ 70
  · rw [decide_eq_true h]
    simp only [Bool.not_true, Bool.false_eq_true, if_false, Bool.true_and, uU]
    by_cases h2 : outs.length ≤ 70
    · rw [decide_eq_true h2]
      simp only [Bool.not_true, Bool.false_eq_true, if_false, Bool.true_and]
      have l5 := mV (f := nV N v ins outs lock) (xs := ins) (p := aEk) (r := false) (fun m j hj => by
          rw [nV, dT hj, if_pos rfl, cY ins hj]
          simp only [Option.bind_some, show (40 : Int) = ((40 : Nat) : Int) from rfl, show (600 : Int) = ((600 : Nat) : Int) from rfl, aKD N hN _ 40 600 (by omega), i1 (show j ≤ 100000 by omega)]
          rw [show aEk ins[j] = (decide (ins[j].Witness.length ≤ 40) && ins[j].Witness.all fun w => decide (w.length ≤ 600)) from rfl]
          cases (decide (ins[j].Witness.length ≤ 40) && ins[j].Witness.all fun w => decide (w.length ≤ 600)) <;> rfl) (fun m j hj => by rw [nV, dF (by omega)]; rfl) N 0 (by omega) (by omega)
      have l4 := mV (f := n6 N outs) (xs := outs) (p := fun o => decide (o.Script.length ≤ 600)) (r := false) (fun m j hj => by
          rw [n6, dT hj, if_pos rfl, cY outs hj]
          simp only [Option.bind_some, show (600 : Int) = ((600 : Nat) : Int) from rfl, nle, i1 (show j ≤ 100000 by omega)]
          cases decide (outs[j].Script.length ≤ 600) <;> rfl) (fun m j hj => by rw [n6, dF (by omega)]; rfl) N 0 (by omega) (by omega)
      rw [show ((0 : Nat) : Int) = 0 from rfl, List.drop_zero] at l5 l4
      rw [l5]
      cases ins.all aEk
      · rfl
      · simp only [Option.bind_some, if_true, yD, l4, Bool.true_and]
        cases outs.all fun o => decide (o.Script.length ≤ 600) <;> rfl
    · rw [decide_eq_false h2]; rfl
  · rw [decide_eq_false h]; rfl
theorem aLj {ins : List aO} {outs : List aK} (h : aEz ins outs = true) (ht : ∀ x ∈ ins, x.Prev.Tx.length = 32) : zE ins outs := by
  simp only [aEz, Bool.and_eq_true, decide_eq_true_eq, List.all_eq_true] at h
  obtain ⟨⟨⟨h1, h2⟩, h3⟩, h4⟩ := h
  refine ⟨h1, h2, fun x hx => ?_, h4, ht⟩
  have := h3 x hx
  simp only [aEk, Bool.and_eq_true, decide_eq_true_eq, List.all_eq_true] at this
  exact this
def aGN (o : aK) : Bool := !decide (o.Value < 0) && decide (o.Script.length ≤ 520)
def aIC (x : aO) : Bool := decide (x.Witness.length ≤ 32) && x.Witness.all fun w => decide (w.length ≤ 520)
def aAT (v : Int) (ins : List aO) (outs : List aK) (lock : Int) : Bool :=
  decide (ins.length ≤ 64) && decide (outs.length ≤ 64) && outs.all aGN && ins.all aIC && decide ((aLO v ins outs lock true).length ≤ 20000)
theorem aId (N : Nat) (hN : 70000 ≤ N) {v : Int} {ins : List aO} {outs : List aK} {lock : Int} (K : zE ins outs) : y5 N v ins outs lock = some (aAT v ins outs lock) := by
  have k1 := K.ni
  have k2 := K.no
  unfold y5 aAT
  rw [show (64 : Int) = ((64 : Nat) : Int) from rfl, nle, nle]
  by_cases h : ins.length ≤ 64
  · rw [decide_eq_true h]
    simp only [Bool.not_true, Bool.false_eq_true, if_false, Bool.true_and, uI]
    by_cases h2 : outs.length ≤ 64
    · rw [decide_eq_true h2]
      simp only [Bool.not_true, Bool.false_eq_true, if_false, Bool.true_and]
      have l7 := mV (f := lH N v ins outs lock) (xs := outs) (p := aGN) (r := false) (fun m j hj => by
          rw [lH, dT hj, if_pos rfl, cY outs hj]
          simp only [Option.bind_some, show (520 : Int) = ((520 : Nat) : Int) from rfl, nle, i1 (show j ≤ 100000 by omega), uW]
          rw [show aGN outs[j] = (!decide (outs[j].Value < 0) && decide (outs[j].Script.length ≤ 520)) from rfl]
          cases decide (outs[j].Value < 0) <;> cases decide (outs[j].Script.length ≤ 520) <;> rfl) (fun m j hj => by rw [lH, dF (by omega)]; rfl) N 0 (by omega) (by omega)
      have l6 : ∀ (x : Int) (w : aO), w.Witness.length ≤ 32 → mH N v ins outs lock x w N 0 = some (if (w.Witness.all fun w => decide (w.length ≤ 520)) = true then .brk () else .ret false) := fun x w hw => by
        have := mV (f := mH N v ins outs lock x w) (xs := w.Witness) (p := fun w => decide (w.length ≤ 520)) (r := false) (fun m j hj => by
          rw [mH, dT hj, if_pos rfl, cY w.Witness hj]
          simp only [Option.bind_some, show (520 : Int) = ((520 : Nat) : Int) from rfl, nle, i1 (show j ≤ 100000 by omega)]
          cases decide (w.Witness[j].length ≤ 520) <;> rfl) (fun m j hj => by rw [mH, dF (by omega)]; rfl) N 0 (by omega) (by omega)
        rw [show ((0 : Nat) : Int) = 0 from rfl, List.drop_zero] at this
        exact this
      have l4 := mV (f := mJ N v ins outs lock) (xs := ins) (p := aIC) (r := false) (fun m j hj => by
          rw [mJ, dT hj, if_pos rfl, cY ins hj]
          simp only [Option.bind_some, show (32 : Int) = ((32 : Nat) : Int) from rfl, nle, i1 (show j ≤ 100000 by omega)]
          rw [show aIC ins[j] = (decide (ins[j].Witness.length ≤ 32) && ins[j].Witness.all fun w => decide (w.length ≤ 520)) from rfl]
          by_cases hw : ins[j].Witness.length ≤ 32
          · rw [decide_eq_true hw]
            simp only [Bool.not_true, Bool.false_eq_true, if_false, Bool.true_and, l6 _ _ hw, Option.bind_some, yE]
            cases ins[j].Witness.all fun w => decide (w.length ≤ 520)
            · rfl
            · simp only [if_true, i1 (show j ≤ 100000 by omega)]
          · rw [decide_eq_false hw]; rfl) (fun m j hj => by rw [mJ, dF (by omega)]; rfl) N 0 (by omega) (by omega)
      rw [show ((0 : Nat) : Int) = 0 from rfl, List.drop_zero] at l7 l4
      rw [l7]
      cases outs.all aGN
      · rfl
      · simp only [Option.bind_some, if_true, yK, l4, Bool.true_and]
        cases ins.all aIC
        · rfl
        · simp only [Option.bind_some, if_true, yG, aFx N hN K, Bool.true_and]
          rw [dle]
    · rw [decide_eq_false h2]; rfl
  · rw [decide_eq_false h]; rfl
end Go.Proofs.YtagblcjgjlihaaaDoor
set_option linter.unusedSimpArgs false
set_option linter.unusedVariables false
set_option linter.unusedSectionVars false
set_option maxRecDepth 4000
namespace Go.Proofs.YtagblcjgjlihaaaDoor
open Go Go.Vm
def aGj (n : Nat) (l : List bD) : Bool := decide (l.length ≤ n) && l.all fun c => decide (c.Output.Script.length ≤ 600)
theorem aHd (N : Nat) (hN : 70000 ≤ N) (n : Nat) (hn : n ≤ 1000) (l : List bD) : uR N l (n : Int) = some (aGj n l) := by
  unfold uR aGj
  rw [nle]
  by_cases h : l.length ≤ n
  · rw [decide_eq_true h]
    simp only [Bool.not_true, Bool.false_eq_true, if_false, Bool.true_and]
    have := mV (f := kO N l) (xs := l) (p := fun c => decide (c.Output.Script.length ≤ 600)) (r := false) (fun m j hj => by
        rw [kO, dT hj, if_pos rfl, cY l hj]
        simp only [Option.bind_some, show (600 : Int) = ((600 : Nat) : Int) from rfl, nle, i1 (show j ≤ 100000 by omega)]
        cases decide (l[j].Output.Script.length ≤ 600) <;> rfl) (fun m j hj => by rw [kO, dF (by omega)]; rfl) N 0 (by omega) (by omega)
    rw [show ((0 : Nat) : Int) = 0 from rfl, List.drop_zero] at this
    rw [this]
    cases l.all fun c => decide (c.Output.Script.length ≤ 600) <;> rfl
  · rw [decide_eq_false h]; rfl
def xU (l : List aK) : Int := (l.map (·.Value)).sum
theorem aC5 : ∀ {l : List aK}, (∀ o ∈ l, 0 ≤ o.Value) → 0 ≤ xU l
  | [], _ => by simp [xU]
  | o :: l, h => by
    have h1 := h o (by simp)
    have h2 := aC5 (l := l) (fun x hx => h x (by simp [hx]))
    simp only [xU, List.map_cons, List.sum_cons] at h2 ⊢; omega
theorem aJi (o : aK) (l : List aK) : xU (o :: l) = o.Value + xU l := by simp [xU]
theorem aEx (N : Nat) (outs : List aK) (hn : outs.length ≤ 64) (h0 : ∀ o ∈ outs, 0 ≤ o.Value) : ∀ (m j : Nat) (s : Int), outs.length - j < m → j ≤ outs.length → 0 ≤ s → s ≤ 2100000000000000 →
    oG N outs m s (j : Int) = some (if s + xU (outs.drop j) ≤ 2100000000000000 then .brk () else .ret false)
  | 0, j, s, hm, _, _, _ => by omega
  | m + 1, j, s, hm, hj, hs, hs2 => by
    rw [oG]
    by_cases h : j < outs.length
    · have hv := h0 _ (List.getElem_mem h)
      have hnn := aC5 (l := outs.drop (j + 1)) (fun x hx => h0 x (List.mem_of_mem_drop hx))
      rw [dT h, if_pos rfl, cY outs h, Option.bind_some, List.drop_eq_getElem_cons h, aJi, fA (a := 2100000000000000 - s) (by omega) (by omega)]
      by_cases hc : 2100000000000000 - s < outs[j].Value
      · rw [decide_eq_true hc, if_pos rfl, if_neg (by omega)]
      · rw [decide_eq_false hc, fA (a := s + outs[j].Value) (by omega) (by omega)]
        simp only [Bool.false_eq_true, if_false, i1 (show j ≤ 100000 by omega)]
        rw [aEx N outs hn h0 m (j + 1) _ (by omega) (by omega) (by omega) (by omega), Int.add_assoc]
    · rw [dF h, List.drop_eq_nil_of_le (by omega)]
      simp [xU, hs2]
theorem aKb (N : Nat) (hN : 70000 ≤ N) (outs : List aK) (hn : outs.length ≤ 64) (h0 : ∀ o ∈ outs, 0 ≤ o.Value) : zD N outs = some (decide (xU outs ≤ 2100000000000000)) := by
  have := aEx N outs hn h0 N 0 0 (by omega) (by omega) (by omega) (by omega)
  rw [show ((0 : Nat) : Int) = 0 from rfl, List.drop_zero, Int.zero_add] at this
  unfold zD
  rw [this]
  by_cases h : xU outs ≤ 2100000000000000
  · rw [if_pos h, decide_eq_true h]; rfl
  · rw [if_neg h, decide_eq_false h]; rfl
def qd (ins : List aO) (j k : Nat) : Bool := match ins[j]?, ins[k]? with
  | some a, some b => qV a.Prev b.Prev
  | _, _ => false
def nd (ins : List aO) (j : Nat) : Bool := (List.range' 0 j).all fun k => !qd ins j k
theorem aCe {α β : Type} {eq : α → α → Bool} {g : β → α} {k : α} : ∀ (xs : List β), zU eq (xs.map fun x => (g x, true)) k false = xs.any fun x => eq k (g x)
  | [] => rfl
  | x :: xs => by
    have ih := aCe (eq := eq) (g := g) (k := k) xs
    simp only [zU, u9, List.map_cons, List.findIdx?_cons, List.any_cons] at ih ⊢
    cases h : eq k (g x) with
    | true => simp
    | false =>
      simp only [Bool.false_eq_true, if_false, Bool.false_or]
      rw [← ih]
      cases List.findIdx? (fun e => eq k e.fst) (xs.map fun x => (g x, true)) <;> simp
theorem aKf {α β : Type} {eq : α → α → Bool} {g : β → α} {k : α} (xs : List β) (h : (xs.any fun x => eq k (g x)) = false) : aCo eq (xs.map fun x => (g x, true)) k true = (xs.map fun x => (g x, true)) ++ [(k, true)] := by
  have : u9 eq (xs.map fun x => (g x, true)) k = none := by
    simp only [u9, List.findIdx?_eq_none_iff, List.mem_map]
    rintro e ⟨x, hx, rfl⟩
    have := List.any_eq_false.1 h x hx
    simpa using this
  simp only [aCo, this]
theorem aGD (ins : List aO) (j : Nat) (hj : j < ins.length) : ((ins.take j).any fun x => qV ins[j].Prev x.Prev) = !nd ins j := by
  unfold nd
  have : ∀ c, c ≤ j → ((ins.take c).any fun x => qV ins[j].Prev x.Prev) = !((List.range' 0 c).all fun k => !qd ins j k) := by
    intro c
    induction c with
    | zero => intro _; rfl
    | succ c ih =>
      intro hc
      rw [List.take_succ_eq_append_getElem (by omega), List.any_append, ih (by omega), List.range'_concat, List.all_append]
      have : qd ins j (0 + 1 * c) = qV ins[j].Prev ins[c].Prev := by
        simp only [qd, Nat.zero_add, Nat.one_mul, List.getElem?_eq_getElem hj, List.getElem?_eq_getElem (show c < ins.length by omega)]
      simp only [List.any_cons, List.any_nil, Bool.or_false, List.all_cons, List.all_nil, Bool.and_true, this]
      cases (List.range' 0 c).all fun k => !qd ins j k <;> cases qV ins[j].Prev ins[c].Prev <;> rfl
  exact this j (Nat.le_refl _)
theorem aHk (N : Nat) (v : Int) (ins : List aO) (outs : List aK) (lock : Int) (hn : ins.length ≤ 100) : ∀ (m j : Nat), ins.length - j < m → j ≤ ins.length →
    oM N v ins outs lock m (j : Int) ((ins.take j).map fun x => (x.Prev, true)) = some (if (List.range' j (ins.length - j)).all (nd ins) = true then .brk (ins.map fun x => (x.Prev, true)) else .ret 91)
  | 0, j, hm, _ => by omega
  | m + 1, j, hm, hj => by
    rw [oM]
    by_cases h : j < ins.length
    · rw [dT h, if_pos rfl, cY ins h, Option.bind_some, aCe (g := fun x : aO => x.Prev), aGD ins j h, show ins.length - j = (ins.length - (j + 1)) + 1 by omega, List.range'_succ, List.all_cons]
      cases hd : nd ins j with
      | false => rfl
      | true =>
        simp only [Bool.not_true, Bool.false_eq_true, if_false, Bool.true_and, i1 (show j ≤ 100000 by omega)]
        rw [aKf (g := fun x : aO => x.Prev) _ (by rw [aGD ins j h, hd]; rfl)]
        have e : ((ins.take j).map fun x => (x.Prev, true)) ++ [(ins[j].Prev, true)] = (ins.take (j + 1)).map fun x => (x.Prev, true) := by
          rw [List.take_succ_eq_append_getElem h, List.map_append]; rfl
        rw [e]
        exact aHk N v ins outs lock hn m (j + 1) (by omega) (by omega)
    · have : j = ins.length := by omega
      subst this
      rw [dF h, Nat.sub_self, List.take_of_length_le (Nat.le_refl _)]; rfl
def aCK (o : aY) : Bool := qY o.Tx (List.replicate 32 0) ((o.Index == 4294967295) && true)
theorem aGR {o : aY} (h : o.Tx.length = 32) : qV (aY.mk (List.replicate 32 0) 4294967295) o = aCK o := by
  unfold qV aCK
  simp only
  rw [aFO (by simp) h, aFO h (by simp)]
  congr 1
  · rw [Bool.eq_iff_iff]; simp only [beq_iff_eq]; exact eq_comm
  · congr 1
    rw [Bool.eq_iff_iff]; simp only [beq_iff_eq]; exact eq_comm
def cbB (ins : List aO) : Bool := match ins with
  | [x] => aCK x.Prev
  | _ => false
theorem aC2 (N : Nat) (v : Int) (ins : List aO) (outs : List aK) (lock : Int) : qL N v ins outs lock = some (cbB ins) := by
  unfold qL cbB
  match ins with
  | [] => rfl
  | [x] => rfl
  | x :: y :: l =>
    have e : (((x :: y :: l).length : Int) == 1) = false := by
      simp only [List.length_cons, beq_eq_false_iff_ne]; omega
    rw [e]
    rfl
def chk (v : Int) (ins : List aO) (outs : List aK) (lock : Int) : Int :=
  if aAT v ins outs lock = false then 4 else if (ins.length == 0 || outs.length == 0) = true then 93 else if ¬ xU outs ≤ 2100000000000000 then 90 else if (List.range' 0 ins.length).all (nd ins) = false then 91
  else if ((ins.any fun x => aCK x.Prev) && !cbB ins) = true then 92 else 0
theorem aNd {α : Type} (l : List α) : ((l.length : Int) == 0) = (l.length == 0) := by
  rw [Bool.eq_iff_iff]; simp
theorem aIN {v : Int} {ins : List aO} {outs : List aK} {lock : Int} (h : aAT v ins outs lock = true) : ins.length ≤ 64 ∧ outs.length ≤ 64 ∧ ∀ o ∈ outs, 0 ≤ o.Value := by
  simp only [aAT, Bool.and_eq_true, decide_eq_true_eq, List.all_eq_true] at h
  refine ⟨h.1.1.1.1, h.1.1.1.2, fun o ho => ?_⟩
  have := h.1.1.2 o ho
  simp only [aGN, Bool.and_eq_true, Bool.not_eq_true', decide_eq_false_iff_not] at this
  omega
theorem aJO (N : Nat) (hN : 70000 ≤ N) {v : Int} {ins : List aO} {outs : List aK} {lock : Int} (K : zE ins outs) : zZ N v ins outs lock = some (chk v ins outs lock) := by
  unfold zZ chk
  rw [aId N hN K]
  cases hf : aAT v ins outs lock with
  | false => rfl
  | true =>
    obtain ⟨n1, n2, h0⟩ := aIN hf
    simp only [Option.bind_some, Bool.not_true, Bool.false_eq_true, if_false, aNd, tF, Bool.true_eq_false]
    cases hi : ins.length == 0 with
    | true => rfl
    | false =>
      cases ho : outs.length == 0 with
      | true => rfl
      | false =>
        simp only [Bool.false_eq_true, if_false, Bool.or_self, aKb N hN outs n2 h0, Option.bind_some]
        by_cases hm : xU outs ≤ 2100000000000000
        · simp only [hm, decide_true, Bool.not_true, Bool.false_eq_true, if_false, not_true_eq_false]
          have := aHk N v ins outs lock (by omega) N 0 (by omega) (by omega)
          simp only [List.take_zero, List.map_nil, Nat.sub_zero] at this
          rw [show ((0 : Nat) : Int) = 0 from rfl] at this
          rw [this]
          cases hd : (List.range' 0 ins.length).all (nd ins) with
          | false => rfl
          | true =>
            simp only [if_true, Option.bind_some, wW, aCe (g := fun x : aO => x.Prev), aC2 N v ins outs lock, Bool.true_eq_false, if_false]
            have e : (ins.any fun x => qV (aY.mk (List.replicate 32 0) 4294967295) x.Prev) = ins.any fun x => aCK x.Prev := by
              rw [Bool.eq_iff_iff]
              simp only [List.any_eq_true]
              constructor
              · rintro ⟨x, hx, h⟩; exact ⟨x, hx, by rw [← aGR (K.tx x hx)]; exact h⟩
              · rintro ⟨x, hx, h⟩; exact ⟨x, hx, by rw [aGR (K.tx x hx)]; exact h⟩
            rw [e]
            cases (ins.any fun x => aCK x.Prev) <;> cases cbB ins <;> rfl
        · simp only [hm, decide_false, Bool.not_false, if_true, not_false_eq_true]
end Go.Proofs.YtagblcjgjlihaaaDoor
set_option linter.unusedSimpArgs false
set_option linter.unusedVariables false
set_option linter.unusedSectionVars false
set_option maxRecDepth 4000
namespace Go.Proofs.YtagblcjgjlihaaaDoor
open Go Go.Vm
def u2 (l : List bD) : Int := (l.map (·.Output.Value)).sum
theorem aFv (c : bD) (l : List bD) : u2 (c :: l) = c.Output.Value + u2 l := by simp [u2]
def nnC (c : bD) : Bool := !decide (c.Output.Value < 0)
theorem aC3 : ∀ {l : List bD}, l.all nnC = true → 0 ≤ u2 l
  | [], _ => by simp [u2]
  | c :: l, h => by
    rw [List.all_cons, Bool.and_eq_true] at h
    have h2 := aC3 h.2
    have h1 := h.1
    simp only [nnC, Bool.not_eq_true', decide_eq_false_iff_not] at h1
    rw [aFv]; omega
theorem aJE (N : Nat) (l : List bD) (hn : l.length ≤ 70) (m : Nat) : ∀ (j : Nat) (s : Int), l.length - j < m → j ≤ l.length → 0 ≤ s → s ≤ 2100000000000000 →
    kD N l m s (j : Int) = some (if (l.drop j).all nnC = true ∧ s + u2 (l.drop j) ≤ 2100000000000000 then .brk (s + u2 (l.drop j)) else .ret (0, false)) := by
  induction m with
  | zero => intro j s hm _ _ _; omega
  | succ m ih =>
    intro j s hm hj hs hs2
    rw [kD]
    by_cases h : j < l.length
    · rw [dT h, if_pos rfl, cY l h, Option.bind_some, List.drop_eq_getElem_cons h, aFv, List.all_cons]
      simp only [r7]
      by_cases hv : l[j].Output.Value < 0
      · have e : nnC l[j] = false := by simp [nnC, hv]
        simp only [e, decide_eq_true hv, if_true, Bool.false_and, Bool.false_eq_true, false_and, if_false]
      · have e : nnC l[j] = true := by simp [nnC, hv]
        rw [decide_eq_false hv, e, fA (a := 2100000000000000 - s) (by omega) (by omega)]
        simp only [Bool.false_eq_true, if_false, Bool.true_and]
        by_cases hc : 2100000000000000 - s < l[j].Output.Value
        · rw [decide_eq_true hc, if_pos rfl]
          rw [if_neg (fun hh => by have := aC3 hh.1; omega)]
        · rw [decide_eq_false hc, fA (a := s + l[j].Output.Value) (by omega) (by omega)]
          simp only [Bool.false_eq_true, if_false, i1 (show j ≤ 100000 by omega)]
          rw [ih (j + 1) _ (by omega) (by omega) (by omega) (by omega), Int.add_assoc]
    · rw [dF h, List.drop_eq_nil_of_le (by omega)]
      simp [u2, hs2]
def mtc (l : List bD) (ins : List aO) (k : Nat) : Bool := match l[k]?, ins[k]? with
  | some c, some x => qY c.Out.Tx x.Prev.Tx ((c.Out.Index == x.Prev.Index) && true)
  | _, _ => false
theorem aLt {l : List bD} {ins : List aO} {k : Nat} (h : k < l.length) (h2 : k < ins.length) : mtc l ins k = qY l[k].Out.Tx ins[k].Prev.Tx ((l[k].Out.Index == ins[k].Prev.Index) && true) := by
  simp only [mtc, List.getElem?_eq_getElem h, List.getElem?_eq_getElem h2]
def vR (v : Int) (ins : List aO) (outs : List aK) (lock : Int) (l : List bD) : Int × Int :=
  if chk v ins outs lock ≠ 0 then (0, chk v ins outs lock) else if l.length ≠ ins.length then (0, 8) else if (List.range' 0 l.length).all (mtc l ins) = false then (0, 101)
  else if ¬ (l.all nnC = true ∧ u2 l ≤ 2100000000000000) then (0, 90)
  else if outs.foldl (fun s o => IntKind.i64.wrap (s - o.Value)) (u2 l) < 0 then (0, 100) else (outs.foldl (fun s o => IntKind.i64.wrap (s - o.Value)) (u2 l), 0)
theorem aMu {α β : Type} (l : List α) (k : List β) : ((l.length : Int) != (k.length : Int)) = decide (l.length ≠ k.length) := by
  by_cases h : l.length = k.length
  · rw [h]; simp
  · rw [decide_eq_true h]; simp; omega
section
variable (N : Nat) (hN : 70000 ≤ N) {v : Int} {ins : List aO} {outs : List aK} {lock : Int} (K : zE ins outs) {l : List bD} (hl : l.length ≤ 70)
include hN K hl
theorem aLK : r5 N v ins outs lock l = some (vR v ins outs lock l) := by
  have k1 := K.ni
  have k2 := K.no
  unfold r5 vR
  rw [aJO N hN K, Option.bind_some, aMu]
  by_cases hc : chk v ins outs lock = 0
  · simp only [hc, bne_self_eq_false, Bool.false_eq_true, if_false, ne_eq, not_true_eq_false]
    by_cases hn : l.length = ins.length
    · simp only [hn, not_true_eq_false, decide_false, Bool.false_eq_true, if_false]
      have := aFM (f := lQ N v ins outs lock l) (n := l.length) (p := mtc l ins) (r := (0, 101)) (fun m k hk => by
          have hk' : k < ins.length := by omega
          rw [lQ, dT hk, if_pos rfl, cY l hk, cY ins hk', aLt hk hk']
          simp only [Option.bind_some, i1 (show k ≤ 100000 by omega)]
          cases qY l[k].Out.Tx ins[k].Prev.Tx ((l[k].Out.Index == ins[k].Prev.Index) && true) <;> rfl) (fun m k hk => by rw [lQ, dF (by omega)]; rfl) N 0 (by omega) (by omega)
      rw [show ((0 : Nat) : Int) = 0 from rfl, Nat.sub_zero] at this
      rw [this, hn]
      cases (List.range' 0 ins.length).all (mtc l ins) with
      | false => rfl
      | true =>
        have hs := aJE N l hl N 0 0 (by omega) (by omega) (by omega) (by omega)
        rw [show ((0 : Nat) : Int) = 0 from rfl, List.drop_zero, Int.zero_add] at hs
        simp only [if_true, Option.bind_some, vD, aAt, hs, Bool.true_eq_false, if_false]
        by_cases hz : l.all nnC = true ∧ u2 l ≤ 2100000000000000
        · rw [if_pos hz, if_neg (fun h => h hz)]
          have hf := aFI (f := lS N outs) (xs := outs) (g := fun s o => IntKind.i64.wrap (s - o.Value)) (fun m s j hj => by
              rw [lS, dT hj, if_pos rfl, cY outs hj]
              simp only [Option.bind_some, i1 (show j ≤ 100000 by omega)]) (fun m s j hj => by rw [lS, dF (by omega)]; rfl) N (u2 l) 0 (by omega) (by omega)
          rw [show ((0 : Nat) : Int) = 0 from rfl, List.drop_zero] at hf
          simp only [vG, Option.bind_some, Bool.not_true, Bool.false_eq_true, if_false, hf, vJ]
          by_cases hx : outs.foldl (fun s o => IntKind.i64.wrap (s - o.Value)) (u2 l) < 0
          · rw [decide_eq_true hx, if_pos rfl, if_pos hx]
          · rw [decide_eq_false hx, if_neg hx]; rfl
        · rw [if_neg hz, if_pos hz]; rfl
    · simp only [hn, not_false_eq_true, decide_true, if_true]
  · have : (chk v ins outs lock != 0) = true := by simpa using hc
    simp only [this, hc, if_true, ne_eq, not_false_eq_true]
end
end Go.Proofs.YtagblcjgjlihaaaDoor
set_option linter.unusedSimpArgs false
set_option linter.unusedVariables false
set_option linter.unusedSectionVars false
namespace Go.Proofs.YtagblcjgjlihaaaDoor
open Go Go.Vm
theorem fQ {α : Type} {n : Nat} {l : List α} {i : Nat} (h : i < n) (hl : i < l.length) : cX n l (i : Int) = some l[i] := by
  unfold cX; rw [if_pos (by omega), cY l hl]
theorem jT {α : Type} {n : Nat} {l : List α} (h : l.length = n) : b9 n l = some l := by unfold b9; rw [if_pos h]
theorem tE (N : Nat) (x n s : Int) (hs : bits .and .u64 (IntKind.u64.wrap (IntKind.i64.wrap (0 - n))) 31 = s) (h0 : 0 ≤ s) (h1 : s ≤ 32) : ∃ y, dY N x n = some y := by
  unfold dY lI
  rw [hs, aCt (a := 32 - s) (by omega) (by omega)]
  unfold shl shr
  rw [if_neg (by omega), if_neg (by omega)]
  exact ⟨_, rfl⟩
def rv (N : Nat) (x n : Int) : Int := (dY N x n).getD 0
theorem wK {N : Nat} {x n : Int} (h : ∃ y, dY N x n = some y) : dY N x n = some (rv N x n) := by obtain ⟨y, h⟩ := h; simp [rv, h]
theorem rv2 (N : Nat) (x : Int) : dY N x 2 = some (rv N x 2) := wK (tE N x 2 30 (by decide +kernel) (by omega) (by omega))
theorem rv6 (N : Nat) (x : Int) : dY N x 6 = some (rv N x 6) := wK (tE N x 6 26 (by decide +kernel) (by omega) (by omega))
theorem rv7 (N : Nat) (x : Int) : dY N x 7 = some (rv N x 7) := wK (tE N x 7 25 (by decide +kernel) (by omega) (by omega))
theorem aNj (N : Nat) (x : Int) : dY N x 11 = some (rv N x 11) := wK (tE N x 11 21 (by decide +kernel) (by omega) (by omega))
theorem aMW (N : Nat) (x : Int) : dY N x 13 = some (rv N x 13) := wK (tE N x 13 19 (by decide +kernel) (by omega) (by omega))
theorem aMQ (N : Nat) (x : Int) : dY N x 17 = some (rv N x 17) := wK (tE N x 17 15 (by decide +kernel) (by omega) (by omega))
theorem aMK (N : Nat) (x : Int) : dY N x 18 = some (rv N x 18) := wK (tE N x 18 14 (by decide +kernel) (by omega) (by omega))
theorem aMX (N : Nat) (x : Int) : dY N x 19 = some (rv N x 19) := wK (tE N x 19 13 (by decide +kernel) (by omega) (by omega))
theorem aNa (N : Nat) (x : Int) : dY N x 22 = some (rv N x 22) := wK (tE N x 22 10 (by decide +kernel) (by omega) (by omega))
theorem aNf (N : Nat) (x : Int) : dY N x 25 = some (rv N x 25) := wK (tE N x 25 7 (by decide +kernel) (by omega) (by omega))
theorem aM1 (x : Int) : shr .u32 x 3 = some (x.fdiv (2 ^ (min (3 : Int).toNat 32))) := by unfold shr; rw [if_neg (by omega)]; rfl
theorem aMx (x : Int) : shr .u32 x 10 = some (x.fdiv (2 ^ (min (10 : Int).toNat 32))) := by unfold shr; rw [if_neg (by omega)]; rfl
theorem sL3 (N : Nat) : ∀ (m j : Nat) (l : List Int), l.length = 64 → 16 ≤ j → j ≤ 64 → 64 - j < m → ∃ r, kL N m (j : Int) l = some r ∧ r.length = 64
  | 0, j, l, _, _, _, hm => by omega
  | m + 1, j, l, hl, h1, h2, hm => by
    rw [kL]
    by_cases h : j < 64
    · rw [show decide ((j : Int) < 64) = true from decide_eq_true (by omega), if_pos rfl]
      rw [fA (a := (j : Int) - 15) (by omega) (by omega), show (j : Int) - 15 = ((j - 15 : Nat) : Int) by omega, fQ (show j - 15 < 64 by omega) (by omega)]
      rw [fA (a := (j : Int) - 2) (by omega) (by omega), show (j : Int) - 2 = ((j - 2 : Nat) : Int) by omega, fQ (show j - 2 < 64 by omega) (by omega)]
      rw [fA (a := (j : Int) - 16) (by omega) (by omega), show (j : Int) - 16 = ((j - 16 : Nat) : Int) by omega, fQ (show j - 16 < 64 by omega) (by omega)]
      rw [fA (a := (j : Int) - 7) (by omega) (by omega), show (j : Int) - 7 = ((j - 7 : Nat) : Int) by omega, fQ (show j - 7 < 64 by omega) (by omega)]
      rw [fQ h (by omega)]
      simp only [Option.bind_some, rv7, aMK, aMQ, aMX, aM1, aMx, i1 (show j ≤ 100000 by omega)]
      exact sL3 N m (j + 1) _ (by rw [List.length_set]; exact hl) (by omega) (by omega) (by omega)
    · rw [show decide ((j : Int) < 64) = false from decide_eq_false (by omega)]
      exact ⟨l, rfl, hl⟩
theorem cL2 (N : Nat) (st w : List Int) (hw : w.length = 64) : ∀ (m j : Nat) (a b c d e f g h : Int), j ≤ 64 → 64 - j < m → ∃ r, kF N st w m a b c d e f g h (j : Int) = some r
  | 0, j, _, _, _, _, _, _, _, _, _, hm => by omega
  | m + 1, j, a, b, c, d, e, f, g, h, hj, hm => by
    rw [kF]
    by_cases h1 : j < 64
    · rw [show decide ((j : Int) < 64) = true from decide_eq_true (by omega), if_pos rfl, fQ h1 (show j < aEH.length from h1), fQ h1 (by omega)]
      simp only [Option.bind_some, rv2, rv6, aNj, aMW, aNa, aNf, i1 (show j ≤ 100000 by omega)]
      exact cL2 N st w hw m (j + 1) _ _ _ _ _ _ _ _ (by omega) (by omega)
    · rw [show decide ((j : Int) < 64) = false from decide_eq_false (by omega)]
      exact ⟨_, rfl⟩
def wd (b : List Nat) (i : Nat) : Nat := ((b.getD (4 * i) 0 * 256 + b.getD (4 * i + 1) 0) * 256 + b.getD (4 * i + 2) 0) * 256 + b.getD (4 * i + 3) 0
theorem aCM {b : List Nat} (h : ∀ x ∈ b, x < 256) (i : Nat) : b.getD i 0 < 256 := by
  rw [List.getD_eq_getElem?_getD]
  rcases Nat.lt_or_ge i b.length with hi | hi
  · rw [List.getElem?_eq_getElem hi]; exact h _ (List.getElem_mem hi)
  · rw [List.getElem?_eq_none hi]; simp
theorem aLE (a b k : Nat) (h : b < 2 ^ k) : a * 2 ^ k ||| b = a * 2 ^ k + b := by
  rw [Nat.mul_comm, ← Nat.two_pow_add_eq_or_of_lt h]
theorem orU (a b : Nat) (ha : a < 4294967296) (hb : b < 4294967296) : bits .or .u32 (a : Int) (b : Int) = ((a ||| b : Nat) : Int) := aCW rfl a b ha hb
theorem aNl (a b : Nat) : shl .u32 (a : Int) (b : Int) = some ((a * 2 ^ b % 4294967296 : Nat) : Int) := aE2 rfl a b
theorem aLS {b : List Nat} {i : Nat} (hl : b.length = 64) (hi : i < 64) : cX 64 (iN b) (i : Int) = some ((b.getD i 0 : Nat) : Int) := by
  rw [fQ hi (by rw [aHm]; omega)]
  have h1 : i < b.length := by omega
  simp [iN, h1]
theorem aKM (n : Nat) (h : n < 4294967296) : IntKind.u32.wrap (n : Int) = n := aM4 (by omega) (by omega)
def aCD (b : List Nat) (j : Nat) (l : List Int) : List Int := (List.range' j (16 - j)).foldl (fun l i => l.set i ((wd b i : Nat) : Int)) l
theorem aJe (b : List Nat) (j : Nat) (l : List Int) : (aCD b j l).length = l.length := by
  unfold aCD
  generalize List.range' j (16 - j) = r
  induction r generalizing l with
  | nil => rfl
  | cons x r ih => rw [List.foldl_cons, ih, List.length_set]
section
variable (N : Nat) (b : List Nat) (hl : b.length = 64) (hb : ∀ x ∈ b, x < 256)
include hl hb
theorem sL6 (i : Nat) (hi : i < 16) (m j : Nat) (hj : j < 4) (l : List Int) (hll : l.length = 64) (v : Nat) (hv : v < 16777216) (hli : l[i]? = some (v : Int)) :
    eK N (iN b) (i : Int) (m + 1) (j : Int) l = eK N (iN b) (i : Int) m ((j + 1 : Nat) : Int) (l.set i ((v * 256 + b.getD (4 * i + j) 0 : Nat) : Int)) := by
  have hil : i < l.length := by omega
  have hbl := aCM hb (4 * i + j)
  rw [eK, show decide ((j : Int) < 4) = true from decide_eq_true (by omega), if_pos rfl, fQ (show i < 64 by omega) hil]
  rw [List.getElem?_eq_getElem hil] at hli
  rw [Option.some.inj hli, fA (a := 4 * (i : Int)) (by omega) (by omega), fA (a := 4 * (i : Int) + (j : Int)) (by omega) (by omega), show 4 * (i : Int) + (j : Int) = ((4 * i + j : Nat) : Int) by omega, aLS hl (by omega)]
  rw [show (8 : Int) = ((8 : Nat) : Int) from rfl]
  simp only [Option.bind_some, aNl, Int.toNat_natCast, i1 (show j ≤ 100000 by omega)]
  rw [aKM _ (by omega), orU _ _ (Nat.mod_lt _ (by omega)) (by omega), Nat.mod_eq_of_lt (by omega), aLE _ _ 8 (by omega)]
theorem aLd (i : Nat) (hi : i < 16) (l : List Int) (hll : l.length = 64) (hli : l[i]? = some 0) (hN : 10 ≤ N) : eK N (iN b) (i : Int) N 0 l = some (l.set i ((wd b i : Nat) : Int)) := by
  have g0 := aCM hb (4 * i)
  have g1 := aCM hb (4 * i + 1)
  have g2 := aCM hb (4 * i + 2)
  have hil : i < l.length := by omega
  obtain ⟨m, hm⟩ : ∃ m, N = m + 5 := ⟨N - 5, by omega⟩
  have hfu : ∀ k, eK N (iN b) (i : Int) N k l = eK N (iN b) (i : Int) (m + 1 + 1 + 1 + 1 + 1) k l := fun k => by
    have : N = m + 1 + 1 + 1 + 1 + 1 := by omega
    exact congrArg (fun q => eK N (iN b) (i : Int) q k l) this
  rw [hfu, show (0 : Int) = ((0 : Nat) : Int) from rfl, sL6 N b hl hb i hi _ 0 (by omega) l hll 0 (by omega) hli]
  rw [sL6 N b hl hb i hi _ 1 (by omega) _ (by rw [List.length_set]; exact hll) (0 * 256 + b.getD (4 * i + 0) 0) (by simp only [Nat.add_zero]; omega) (List.getElem?_set_self hil), List.set_set]
  rw [sL6 N b hl hb i hi _ 2 (by omega) _ (by rw [List.length_set]; exact hll) _ (by simp only [Nat.add_zero]; omega) (List.getElem?_set_self hil), List.set_set]
  rw [sL6 N b hl hb i hi _ 3 (by omega) _ (by rw [List.length_set]; exact hll) _ (by simp only [Nat.add_zero]; omega) (List.getElem?_set_self hil), List.set_set]
  rw [eK]
  simp only [Nat.reduceAdd, show decide (((4 : Nat) : Int) < 4) = false from rfl, Bool.false_eq_true, if_false, wd, Nat.zero_mul, Nat.zero_add, Nat.add_zero]
omit hl hb in
theorem aIa {f : Nat → Int → List Int → Option (List Int)} (hs : ∀ (m j : Nat) (l : List Int), j < 16 → l.length = 64 → l[j]? = some 0 → f (m + 1) (j : Int) l = f m ((j + 1 : Nat) : Int) (l.set j ((wd b j : Nat) : Int))) (he : ∀ m l, f (m + 1) 16 l = some l) :
    ∀ (m j : Nat) (l : List Int), 16 - j < m → j ≤ 16 → l.length = 64 → (∀ i, j ≤ i → i < 64 → l[i]? = some 0) → f m (j : Int) l = some (aCD b j l)
  | 0, j, l, hm, _, _, _ => by omega
  | m + 1, j, l, hm, hj, hll, hz => by
    by_cases h : j < 16
    · rw [hs m j l h hll (hz j (Nat.le_refl _) (by omega)), aIa hs he m (j + 1) _ (by omega) (by omega) (by rw [List.length_set]; exact hll) (fun i h1 h2 => by rw [List.getElem?_set_ne (by omega)]; exact hz i (by omega) h2)]
      unfold aCD
      rw [show 16 - j = (16 - (j + 1)) + 1 by omega, List.range'_succ, List.foldl_cons]
    · obtain rfl : j = 16 := by omega
      exact he m l
theorem sL4 (hN : 70000 ≤ N) : fZ N (iN b) N 0 (List.replicate 64 0) = some (aCD b 0 (List.replicate 64 0)) := by
  refine aIa b (f := fZ N (iN b)) (fun m j l hj hll hz => ?_) (fun m l => by rw [fZ]; rfl) N 0 _ (by omega) (by omega) (by simp) (fun i _ hi => by rw [List.getElem?_replicate, if_pos hi])
  rw [fZ, show decide ((j : Int) < 16) = true from decide_eq_true (by omega), if_pos rfl, aLd N b hl hb j hj l hll hz (by omega)]
  simp only [Option.bind_some, qW, i1 (show j ≤ 100000 by omega)]
end
section
variable (N : Nat) (hN : 70000 ≤ N) (b : List Nat) (hl : b.length = 64) (hb : ∀ x ∈ b, x < 256)
include hN hl hb
theorem aMh : ∃ w, rS N (iN b) = some w ∧ w.length = 64 := by
  obtain ⟨w, h1, h2⟩ := sL3 N N 16 (aCD b 0 (List.replicate 64 0)) (by rw [aJe]; simp) (by omega) (by omega) (by omega)
  rw [show ((16 : Nat) : Int) = 16 from rfl] at h1
  refine ⟨w, ?_, h2⟩
  simp only [rS, sL4 N b hl hb hN, Option.bind_some, q5, h1, q8, jT h2]
theorem aKe (st : List Int) (hst : st.length = 8) : ∃ r, nF N st (iN b) = some r ∧ r.length = 8 := by
  obtain ⟨w, h1, h2⟩ := aMh N hN b hl hb
  have hbl : (iN b).length = 64 := by rw [aHm]; exact hl
  have a0 : cX 8 st 0 = some st[0] := fQ (i := 0) (by omega) (by omega)
  have a1 : cX 8 st 1 = some st[1] := fQ (i := 1) (by omega) (by omega)
  have a2 : cX 8 st 2 = some st[2] := fQ (i := 2) (by omega) (by omega)
  have a3 : cX 8 st 3 = some st[3] := fQ (i := 3) (by omega) (by omega)
  have a4 : cX 8 st 4 = some st[4] := fQ (i := 4) (by omega) (by omega)
  have a5 : cX 8 st 5 = some st[5] := fQ (i := 5) (by omega) (by omega)
  have a6 : cX 8 st 6 = some st[6] := fQ (i := 6) (by omega) (by omega)
  have a7 : cX 8 st 7 = some st[7] := fQ (i := 7) (by omega) (by omega)
  obtain ⟨r, hr⟩ := cL2 N st w h2 N 0 st[0] st[1] st[2] st[3] st[4] st[5] st[6] st[7] (by omega) (by omega)
  rw [show ((0 : Nat) : Int) = 0 from rfl] at hr
  refine ⟨[IntKind.u32.wrap (st[0] + r.1), IntKind.u32.wrap (st[1] + r.2.1), IntKind.u32.wrap (st[2] + r.2.2.1), IntKind.u32.wrap (st[3] + r.2.2.2.1), IntKind.u32.wrap (st[4] + r.2.2.2.2.1), IntKind.u32.wrap (st[5] + r.2.2.2.2.2.1), IntKind.u32.wrap (st[6] + r.2.2.2.2.2.2.1), IntKind.u32.wrap (st[7] + r.2.2.2.2.2.2.2)], ?_, rfl⟩
  simp only [nF, jT hbl, h1, jT h2, a0, a1, a2, a3, a4, a5, a6, a7, Option.bind_some, hr, rA]
end
end Go.Proofs.YtagblcjgjlihaaaDoor
