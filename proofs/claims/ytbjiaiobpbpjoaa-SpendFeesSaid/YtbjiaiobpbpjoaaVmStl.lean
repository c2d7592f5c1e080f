import Derived.Test.YtbjiaiobpbpjoaaVmExt
set_option linter.unusedSimpArgs false
set_option linter.unusedVariables false
namespace Go.Vm
open Go

/-! ### Local rows of structs -/
section
variable {α : Type} {C : α → List V} {K : Nat}
theorem flat_len (hC : ∀ x, (C x).length = K) : ∀ l : List α, (l.flatMap C).length = l.length * K
  | [] => by simp
  | x :: l => by simp only [List.flatMap_cons, List.length_append, hC, flat_len hC l, List.length_cons, Nat.add_mul, Nat.one_mul]; omega
theorem flat_drop (hC : ∀ x, (C x).length = K) : ∀ (l : List α) (i : Nat), (l.flatMap C).drop (i * K) = (l.drop i).flatMap C
  | l, 0 => by simp
  | [], i + 1 => by simp
  | x :: l, i + 1 => by
    rw [List.flatMap_cons, List.drop_succ_cons, ← flat_drop hC l i, Nat.add_mul, Nat.one_mul, List.drop_append, List.drop_eq_nil_of_le (by rw [hC]; omega), List.nil_append, hC]
    congr 1; omega
theorem flat_take (hC : ∀ x, (C x).length = K) : ∀ (l : List α) (i : Nat), (l.flatMap C).take (i * K) = (l.take i).flatMap C
  | l, 0 => by simp
  | [], i + 1 => by simp
  | x :: l, i + 1 => by
    rw [List.flatMap_cons, List.take_succ_cons, List.flatMap_cons, ← flat_take hC l i, Nat.add_mul, Nat.one_mul, List.take_append, List.take_of_length_le (by rw [hC]; omega), hC]
    congr 2; omega
theorem flat_chunks (hC : ∀ x, (C x).length = K) (l : List α) : chunks true K l.length (l.flatMap C) = l.map fun x => V.agg (C x) := by
  unfold chunks
  rw [if_pos rfl]
  apply List.ext_getElem
  · simp
  · intro i h1 h2
    simp only [List.length_map] at h2
    simp only [List.getElem_map, List.getElem_range]
    rw [flat_drop hC, List.drop_eq_getElem_cons h2, List.flatMap_cons, List.take_append, List.take_of_length_le (by rw [hC]; exact Nat.le_refl _), hC, Nat.sub_self, List.take_zero, List.append_nil]
theorem all_flat {p : V → Bool} (h : ∀ x, (C x).all p = true) (l : List α) : (l.flatMap C).all p = true := by
  rw [List.all_eq_true]; intro y hy
  simp only [List.mem_flatMap] at hy
  obtain ⟨x, _, hy⟩ := hy
  exact List.all_eq_true.1 (h x) y hy
theorem rns_app {f : Nat → Nat} : ∀ (a b : List V), V.rns f (a ++ b) = V.rns f a ++ V.rns f b
  | [], b => by simp [V.rns]
  | x :: a, b => by simp [V.rns, rns_app a b]
theorem rns_flat {f : Nat → Nat} (h : ∀ x, V.rns f (C x) = C x) : ∀ l : List α, V.rns f (l.flatMap C) = l.flatMap C
  | [] => by simp [V.rns]
  | x :: l => by rw [List.flatMap_cons, rns_app, h, rns_flat h l]
theorem les_flat {f : Nat → Nat} {vn : Nat → Bool} (h : ∀ x, V.rns f (C x) = C x) (l : List α) : V.les vn (l.flatMap C) (V.rns f (l.flatMap C)) := by rw [rns_flat h]; exact V.les_refl _ _
theorem rfs_app : ∀ (a b : List V), V.rfs (a ++ b) = (V.rfs a && V.rfs b)
  | [], b => by simp [V.rfs]
  | x :: a, b => by simp [V.rfs, rfs_app a b, Bool.and_assoc]
theorem rfs_flat (h : ∀ x, V.rfs (C x) = true) : ∀ l : List α, V.rfs (l.flatMap C) = true
  | [] => by simp [V.rfs]
  | x :: l => by rw [List.flatMap_cons, rfs_app, h, rfs_flat h l]; rfl
theorem mapM_app {F : V → Option V} {a b a' b' : List V} (h1 : a.mapM F = some a') (h2 : b.mapM F = some b') : (a ++ b).mapM F = some (a' ++ b') := by
  rw [List.mapM_append, h1, h2]; rfl
theorem mapM_flat {F : V → Option V} (h : ∀ x, (C x).mapM F = some (C x)) : ∀ l : List α, (l.flatMap C).mapM F = some (l.flatMap C)
  | [] => rfl
  | x :: l => by rw [List.flatMap_cons]; exact mapM_app (h x) (mapM_flat h l)
variable {P : Program} {h h' : Hp} {t e : TypeId} {ti : TI} {b i off : Nat} {l m : List α} {y : α} {kk : IntKind} {j : Int} {nl : Option Bool} {sz by_ : Nat} {z : Value} {v : V}
theorem exp_slK {hE : Hp} {q d : Nat} (hC : ∀ x, (C x).length = K) (hK : 0 < K) (hn : l.length = q) (hb : hE[b]? = some (some ⟨e, l.flatMap C⟩)) (hx : ∀ x, (C x).mapM (expCell hE d) = some (C x)) : expCell hE (d + 1) (.sl b 0 q K true) = some (.row none K (l.map fun x => V.agg (C x))) := by
  subst hn
  simp only [expCell, hb]
  rw [if_pos ⟨by rw [flat_len hC]; omega, hK, .inl trivial⟩]
  simp only [List.drop_zero]
  rw [List.take_of_length_le (by rw [flat_len hC]; exact Nat.le_refl _), mapM_flat hx]
  simp only [Option.map_some, flat_chunks hC]
theorem exp_slKT {hE : Hp} {q : Nat} (hC : ∀ x, (C x).length = K) (hK : 0 < K) (hn : l.length = q) (hb : hE[b]? = some (some ⟨e, l.flatMap C⟩)) (hx : ∀ x, (C x).mapM (expCell hE 3) = some (C x)) : expTop hE (.sl b 0 q K true) = some (.row none K (l.map fun x => V.agg (C x))) := exp_slK hC hK hn hb hx
theorem srcRK : srcV h K (.row nl K (m.map fun x => V.agg (C x))) = some (m.flatMap C, m.length) := by
  have : (m.map fun x => V.agg (C x)).flatMap V.cells = m.flatMap C := by rw [List.flatMap_map]; rfl
  simp only [srcV]
  rw [if_pos (.inl trivial), this]; simp
theorem srcSK {q : Nat} (hC : ∀ x, (C x).length = K) (hn : m.length = q) (hb : h[b]? = some (some ⟨e, m.flatMap C⟩)) : srcV h K (.sl b 0 q K true) = some (m.flatMap C, m.length) := by
  subst hn
  simp only [srcV, hb]
  rw [if_pos ⟨trivial, by rw [flat_len hC]; omega⟩, List.drop_zero, List.take_of_length_le (by rw [flat_len hC]; exact Nat.le_refl _)]
theorem srcNK {k : Nat} : srcV h K (.row nl k []) = some (([] : List α).flatMap C, ([] : List α).length) := by simp [srcV]
theorem appSK {q : Nat} (hC : ∀ x, (C x).length = K) (hn : l.length = q) (ht : tiOf P t = some ⟨.slice e, sz, by_, z⟩) (he : tiOf P e = some ti) (h1 : ti.zero.cells.size = K ∧ ti.size = K ∧ 1 ≤ ti.bytes ∧ 0 < K) (hb : h[b]? = some (some ⟨e, l.flatMap C⟩)) {s : V} (hs : srcV h K s = some (m.flatMap C, m.length))
    {r : List α} (ha : app ti.bytes l m = some r) (hl : h.length = i) (hh : h.set b none ++ [some ⟨e, r.flatMap C⟩] = h') : appendV P t t (.sl b 0 q K true) s h = some (.sl i 0 r.length K true, h') := by
  obtain ⟨h2, h3, h4, h5⟩ := h1
  subst hn
  unfold app at ha
  split at ha
  · rename_i hlim
    injection ha with ha
    subst ha hl hh
    have hx : srcV h ti.size s = some (m.flatMap C, m.length) := by rw [h3]; exact hs
    simp only [appendV, ne_eq, not_true, if_false, ht, he]
    rw [if_pos ⟨by rw [h2, h3], by omega, h4⟩]
    simp only [hx, hb]
    rw [if_pos ⟨h3.symm, trivial, by rw [flat_len hC]; exact Nat.le_refl _, hlim⟩, List.take_of_length_le (by rw [flat_len hC]; exact Nat.le_refl _)]
    simp
  · cases ha
theorem appNK (ht : tiOf P t = some ⟨.slice e, sz, by_, z⟩) (he : tiOf P e = some ti) (h1 : ti.zero.cells.size = K ∧ ti.size = K ∧ 1 ≤ ti.bytes ∧ 0 < K) {s : V} (hs : srcV h K s = some (m.flatMap C, m.length)) (hag : isAggD ti.desc = true) {k : Nat}
    {r : List α} (ha : app ti.bytes [] m = some r) (hl : h.length + 1 = i) (hh : h ++ [none] ++ [some ⟨e, r.flatMap C⟩] = h') : appendV P t t (.row (some true) k []) s h = some (.sl i 0 r.length K true, h') := by
  obtain ⟨h2, h3, h4, h5⟩ := h1
  unfold app at ha
  split at ha
  · rename_i hlim
    injection ha with ha
    subst ha hl hh
    have hx : srcV h ti.size s = some (m.flatMap C, m.length) := by rw [h3]; exact hs
    simp only [appendV, ne_eq, not_true, if_false, ht, he]
    rw [if_pos ⟨by rw [h2, h3], by omega, h4⟩]
    simp only [hx]
    rw [if_pos (by simpa using hlim)]
    simp [h3, hag]
  · cases ha
/-- The address of an element of a local row of structs. -/
theorem iaSK {q : Nat} (hn : l.length = q) (ht : tiOf P t = some ⟨.slice e, sz, by_, z⟩) (he : tiOf P e = some ti) (h1 : ti.size = K) (hx : idx l j = some y) : indexAtV P t (.sl b 0 q K true) (.sc (.int kk j)) = some (.ptr b (0 + j.toNat * K)) := by
  obtain ⟨h2, h3, _⟩ := idx_some hx
  subst hn
  simp [indexAtV, ht, asIdx, he, h1, h2, h3]
theorem partV_app {cs r : List V} (h : partV P t cs = some v) : partV P t (cs ++ r) = some v := by
  unfold partV at *
  split at h
  · cases h
  · split at h
    · rename_i hag
      split at h
      · rename_i hs
        rw [if_pos hag, if_pos (by rw [List.length_append]; omega), List.take_append_of_le_length hs]; exact h
      · cases h
    · rename_i hag
      rw [if_neg hag]
      cases cs with
      | nil => cases h
      | cons c cs => exact h
theorem flat_at (hC : ∀ x, (C x).length = K) {i : Nat} (hi : l[i]? = some y) (ho : off ≤ K) : (l.flatMap C).drop (0 + i * K + off) = (C y).drop off ++ (l.drop (i + 1)).flatMap C := by
  obtain ⟨h1, h2⟩ := List.getElem?_eq_some_iff.1 hi
  rw [Nat.zero_add, ← List.drop_drop, flat_drop hC, List.drop_eq_getElem_cons h1, h2, List.flatMap_cons, List.drop_append_of_le_length (by rw [hC]; exact ho)]
theorem ldXK (hC : ∀ x, (C x).length = K) (hb : h[b]? = some (some ⟨e, l.flatMap C⟩)) (hx : idx l j = some y) (ho : off ≤ K) (hp : partV P t ((C y).drop off) = some v) : loadV P t h (.ptr b (0 + j.toNat * K + off)) = some v := by
  obtain ⟨_, _, h3⟩ := idx_some hx
  simp only [loadV, hb]
  rw [flat_at hC h3 ho]
  exact partV_app hp
theorem ldXK0 (hC : ∀ x, (C x).length = K) (hb : h[b]? = some (some ⟨e, l.flatMap C⟩)) (hx : idx l j = some y) (hp : partV P t (C y) = some v) : loadV P t h (.ptr b (0 + j.toNat * K)) = some v := ldXK (off := 0) hC hb hx (Nat.zero_le _) (by simpa using hp)
theorem splice_flat (hC : ∀ x, (C x).length = K) {i : Nat} (hi : l[i]? = some y) {x : V} {y' : α} (ho : off + x.cells.length ≤ K) (hy : splice (C y) off x.cells = C y') : splice (l.flatMap C) (0 + i * K + off) x.cells = (l.set i y').flatMap C := by
  obtain ⟨h1, h2⟩ := List.getElem?_eq_some_iff.1 hi
  have hl : l = l.take i ++ y :: l.drop (i + 1) := by rw [← h2, ← List.drop_eq_getElem_cons h1, List.take_append_drop]
  have hset : l.set i y' = l.take i ++ y' :: l.drop (i + 1) := by
    rw [List.set_eq_take_append_cons_drop, if_pos h1]
  have hti : (l.take i).length = i := by rw [List.length_take]; omega
  rw [hset, List.flatMap_append, List.flatMap_cons, ← hy]
  conv => lhs; rw [hl, List.flatMap_append, List.flatMap_cons]
  have hA : ((l.take i).flatMap C).length = i * K := by rw [flat_len hC, hti]
  unfold splice
  rw [Nat.zero_add, List.take_append, List.take_of_length_le (by rw [hA]; omega), hA, show i * K + off - i * K = off by omega, List.take_append_of_le_length (by rw [hC]; omega)]
  rw [show i * K + off + x.cells.length = i * K + (off + x.cells.length) by omega, List.drop_append, List.drop_eq_nil_of_le (by rw [hA]; omega), hA, show i * K + (off + x.cells.length) - i * K = off + x.cells.length by omega, List.nil_append, List.drop_append_of_le_length (by rw [hC]; omega)]
  simp [List.append_assoc]
theorem stXK (hC : ∀ x, (C x).length = K) (ht : tiOf P t = some ti) (hb : h[b]? = some (some ⟨e, l.flatMap C⟩)) (hx : idx l j = some y) {x : V} {y' : α} (hf : x.flatOk = true) (hs : x.cells.length = ti.size) (ho : off + ti.size ≤ K) (hy : splice (C y) off x.cells = C y') (hh : h.set b (some ⟨e, (l.set j.toNat y').flatMap C⟩) = h') : storeV P t h (.ptr b (0 + j.toNat * K + off)) x = some h' := by
  obtain ⟨_, _, h3⟩ := idx_some hx
  have h4 := (List.getElem?_eq_some_iff.1 h3).1
  subst hh
  simp only [storeV, ht, hb]
  have hle : (j.toNat + 1) * K ≤ l.length * K := Nat.mul_le_mul_right K h4
  rw [if_pos ⟨hf, hs, by rw [flat_len hC]; rw [Nat.add_mul, Nat.one_mul] at hle; omega⟩, splice_flat hC h3 (by rw [hs]; exact ho) hy]
theorem Conv.rowK (hC : ∀ x, (C x).length = K) (h1K : ∀ x, (C x).all V.one = true) (hsh : ∀ x, (C x).all V.shut = true) {h h' : Hp} (hs : Sub h h') {b n : Nat} {e : TypeId} (hb : h[b]? = some (some ⟨e, l.flatMap C⟩)) (hb' : h'[b]? = some none) (hn : n = l.length) : Conv h h' (.sl b 0 n K true) (.row none K (l.map fun x => V.agg (C x))) := by
  intro A M w v H hv
  obtain ⟨hone, hcase⟩ := H.blk b _ hb
  have hok : ∀ e ∈ l.map (fun x => V.agg (C x)), e.okElem K = true := by
    intro e he
    simp only [List.mem_map] at he
    obtain ⟨x, _, rfl⟩ := he
    simp only [V.okElem, V.flatOk, V.cells, h1K x, hC x, beq_self_eq_true, Bool.and_self]
  unfold VR at hv ⊢
  rcases hv with ⟨hm, rfl, h0, _⟩ | ⟨g, cap, e', sz, hm, rfl, h1, _, h3, hshp, _⟩
  · have : l = [] := List.eq_nil_of_length_eq_zero (by omega)
    subst this
    exact ⟨none, 0, rfl, Nat.le_refl _, fun _ => rfl, (fun b hb => by cases hb), by simp, fun hne => absurd rfl hne⟩
  · rcases hcase with ⟨hm', _⟩ | ⟨g', arr, hm', hA, hw, hle, hcs⟩
    · rw [hm] at hm'; cases hm'
    · rw [hm] at hm'
      injection hm' with hm'
      injection hm' with hm'
      subst hm'
      refine ⟨some ⟨g, 0, none⟩, cap, by rw [List.length_map, hn], by rw [List.length_map]; omega, fun hh => (by cases hh), (fun b hb => by cases hb), hok, fun _ => ⟨⟨g, 0, none⟩, rfl, h3, ?_, rfl, ?_⟩⟩
      · rintro (ha | ⟨c, C', hc, hmc⟩)
        · exact hA ha
        · obtain ⟨C'', hc'⟩ := hs c C' hc
          have := H.inj c b C'' _ g hc' hb hmc hm
          subst this
          rw [hb'] at hc; cases hc
      · rw [← flat_chunks hC l]
        unfold chunks
        rw [if_pos rfl]
        dsimp only at hle hcs
        have hall := all_flat hsh l
        refine rowOfChunks h3 l.length (vs := arr.toList.take (l.flatMap C).length) (flat_len hC l) (VCells.mk hcs.len (fun i c u hc hu => ?_)) ?_
        · obtain ⟨u', hu', hr⟩ := hcs.get hc
          rw [hu] at hu'
          injection hu' with hu'
          subst hu'
          exact (hr.shut (List.all_eq_true.1 hall c (List.mem_of_getElem? hc))).avoid (fun _ _ hx => hs.xs hx)
        · intro i u hu
          have hu2 : arr[i]? = some u := by
            simp only [List.getElem?_toArray, List.getElem?_take] at hu
            split at hu
            · simpa using hu
            · cases hu
          have := hw.cell hshp i
          rw [hu2] at this
          unfold Addr.add
          split
          · rename_i h0; subst h0; exact this
          · simpa using this
/-- A literal of structs. -/
theorem fill_numK (hC : ∀ x, (C x).length = K) (h1 : ∀ x, (C x).all V.one = true) : ∀ (xs : List α) (i : Nat) (cells : List V), cells.length = (i + xs.length) * K → fillV (fun i => some (i * K, K)) cells (numP i (xs.map fun x => V.agg (C x))) = some (cells.take (i * K) ++ xs.flatMap C)
  | [], i, cells, hl => by
    simp only [List.map_nil, numP, fillV, List.flatMap_nil, List.append_nil]
    rw [List.take_of_length_le (by rw [hl]; simp)]
  | x :: xs, i, cells, hl => by
    simp only [List.length_cons] at hl
    have hl' : cells.length = i * K + K + xs.length * K := by rw [hl, Nat.add_mul, Nat.add_mul, Nat.one_mul]; omega
    simp only [List.map_cons, numP, fillV]
    rw [if_pos ⟨by simp [V.flatOk, V.cells, h1 x], by simp [V.cells, hC x], by omega⟩]
    have hsl : (splice cells (i * K) (V.agg (C x)).cells).length = cells.length := splice_length _ _ _ (by simp only [V.cells, hC]; omega)
    rw [fill_numK hC h1 xs (i + 1) _ (by rw [hsl, hl]; congr 1; omega)]
    congr 1
    rw [List.flatMap_cons, ← List.append_assoc]
    congr 1
    unfold splice
    simp only [V.cells]
    rw [Nat.add_mul, Nat.one_mul, List.append_assoc, List.take_append, List.take_of_length_le (by rw [List.length_take]; omega), List.length_take, Nat.min_eq_left (by omega), show i * K + K - i * K = K by omega, List.take_append_of_le_length (by rw [hC]; exact Nat.le_refl _), show (C x).take K = C x from List.take_of_length_le (by rw [hC]; exact Nat.le_refl _)]
theorem bldLK {len : Nat} {ps : List (Nat × V)} {xs : List α} (hC : ∀ x, (C x).length = K) (h1C : ∀ x, (C x).all V.one = true) (ht : tiOf P t = some ⟨.slice e, sz, by_, z⟩) (he : tiOf P e = some ti) (h1 : len * K ≤ 2 ^ 24 ∧ 0 < len ∧ 0 < K) (hK : ti.size = K) (hag : isAggD ti.desc = true)
    (hp : numP 0 (xs.map fun x => V.agg (C x)) = ps) (hlen : xs.length = len) (hl : h.length = i) (hh : h ++ [some ⟨e, xs.flatMap C⟩] = h') :
    buildSliceV P t len ps h = some (.sl i 0 len K true, h') := by
  subst hK hp
  refine bldL ht he h1 hag ?_ ⟨all_flat h1C xs, by rw [flat_len hC, hlen]⟩ hl hh
  rw [fill_numK hC h1C xs 0 _ (by simp [hlen])]
  simp
end
/-- A call, run. -/
theorem pfn_runE {P : Program} (hm : P.follows .mixedOrders = true) (n : Nat) {f : FuncId} {args : List V} {r : V} (he : ((evalFn P n f [] args).bind fun p => expV p.2 p.1) = some r) : PFn P f args r := by
  cases hh : evalFn P n f [] args with
  | none => rw [hh] at he; cases he
  | some p => rw [hh] at he; exact pfn_run hm n (r := p.1) (h' := p.2) hh he
end Go.Vm
