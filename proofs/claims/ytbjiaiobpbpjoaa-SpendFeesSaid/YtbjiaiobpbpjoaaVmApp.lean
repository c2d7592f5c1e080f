import Derived.Test.YtbjiaiobpbpjoaaVmStep
set_option linter.unusedSimpArgs false
set_option linter.unusedVariables false
namespace Go.Vm
open Go

def lim : Nat := 140737488355328

/-- A block moves to a new name: the old name is dead. -/
theorem Grow.move {A : Nat → Prop} {M : List (Option Nat)} {h : Hp} {w w' : World} (H : HR A M h w) {b g : Nat} {B : Blk} (hb : h[b]? = some (some B)) (hg : M[b]? = some (some g))
    (hE : Ext (Live M h) w w') (hoth : ∀ k, k ≠ g → k < w.heap.size → w'.heap[k]? = w.heap[k]?) {cs' : Array Value} {e : TypeId} {cells : List V} (hh : Holds w' g cs' e cells.length)
    (hle : cells.length ≤ cs'.size) (hc : VCells (Xs A M h) M w cells (cs'.toList.take cells.length)) (h1 : ∀ c ∈ cells, c.one = true) :
    Grow A M h w (M ++ [some g]) (h.set b none ++ [some ⟨e, cells⟩]) w' := by
  have hA : ¬ A g := by
    obtain ⟨_, ⟨hn, _⟩ | ⟨g', cs, hg', hA, _⟩⟩ := H.blk b B hb
    · rw [hg] at hn; cases hn
    · rw [hg] at hg'; injection hg' with hg'; injection hg' with hg'; subst hg'; exact hA
  have hold : ∀ (i : Nat) (C : Blk), (h.set b none ++ [some ⟨e, cells⟩])[i]? = some (some C) → (i ≠ b ∧ h[i]? = some (some C)) ∨ (i = h.length ∧ C = ⟨e, cells⟩) := by
    intro i C hi
    rcases get_snoc hi with hi | ⟨hi, hC⟩
    · rcases get_set hi with ⟨_, hC⟩ | ⟨hne, hi'⟩
      · cases hC
      · exact .inl ⟨hne, hi'⟩
    · injection hC with hC; exact .inr ⟨by simpa using hi, hC⟩
  have hlive : ∀ k, k < w.heap.size → Live (M ++ [some g]) (h.set b none ++ [some ⟨e, cells⟩]) k → Live M h k := by
    rintro k hk ⟨i, C, hi, hm⟩
    rcases hold i C hi with ⟨_, hi'⟩ | ⟨rfl, _⟩
    · rcases get_snocM hm with hm' | ⟨hl, _⟩
      · exact ⟨i, C, hi', hm'⟩
      · have := (List.getElem?_eq_some_iff.1 hi').1; rw [H.len] at hl; omega
    · rcases get_snocM hm with hm' | ⟨_, hl⟩
      · have := (List.getElem?_eq_some_iff.1 hm').1; rw [H.len] at this; omega
      · subst hl; exact ⟨b, B, hb, hg⟩
  have keep : ∀ cs us, VCells (Xs A M h) M w cs us → VCells (Xs A (M ++ [some g]) (h.set b none ++ [some ⟨e, cells⟩])) (M ++ [some g]) w' cs us :=
    fun cs us hk => VCells.ext hE ⟨_, rfl⟩ (fun _ _ hl => .inr hl) (fun k hk hx => hx.elim .inl (fun hl => .inr (hlive k hk hl))) cs us hk
  refine ⟨⟨_, rfl⟩, ⟨by simp [H.len], fun k hk => Nat.lt_of_lt_of_le (H.alt k hk) hE.size, ?_, ?_, H.glob.grow hE hlive⟩, hE, hlive⟩
  · intro i C hi
    rcases hold i C hi with ⟨hne, hi'⟩ | ⟨rfl, rfl⟩
    · obtain ⟨h0, ⟨hn, hn'⟩ | ⟨k, ds, hk, hA', hh', hle', hds⟩⟩ := H.blk i C hi'
      · exact ⟨h0, .inl ⟨get_snoc_old hn, hn'⟩⟩
      · refine ⟨h0, .inr ⟨k, ds, get_snoc_old hk, hA', ?_, hle', keep _ _ hds⟩⟩
        exact hh'.to (hoth k (by rintro rfl; exact hne (H.inj i b C B k hi' hb hk hg)) (H.mlt hi' hk))
    · exact ⟨h1, .inr ⟨g, cs', by rw [← H.len]; simp, hA, hh, hle, keep _ _ hc⟩⟩
  · intro i j C D k hi hj mi mj
    rcases hold i C hi with ⟨hne, hi'⟩ | ⟨rfl, _⟩ <;> rcases hold j D hj with ⟨hnj, hj'⟩ | ⟨rfl, _⟩
    · rcases get_snocM mi with m1 | ⟨m1, _⟩
      · rcases get_snocM mj with m2 | ⟨m2, _⟩
        · exact H.inj i j C D k hi' hj' m1 m2
        · have := (List.getElem?_eq_some_iff.1 hj').1; rw [H.len] at m2; omega
      · have := (List.getElem?_eq_some_iff.1 hi').1; rw [H.len] at m1; omega
    · rcases get_snocM mi with m1 | ⟨m1, _⟩
      · rcases get_snocM mj with m2 | ⟨_, m2⟩
        · have := (List.getElem?_eq_some_iff.1 m2).1; rw [H.len] at this; omega
        · subst m2; exact absurd (H.inj i b C B k hi' hb m1 hg) hne
      · have := (List.getElem?_eq_some_iff.1 hi').1; rw [H.len] at m1; omega
    · rcases get_snocM mj with m1 | ⟨m1, _⟩
      · rcases get_snocM mi with m2 | ⟨_, m2⟩
        · have := (List.getElem?_eq_some_iff.1 m2).1; rw [H.len] at this; omega
        · subst m2; exact absurd (H.inj j b D B k hj' hb m1 hg) hnj
      · have := (List.getElem?_eq_some_iff.1 hj').1; rw [H.len] at m1; omega
    · rfl

/-- A block that is not there: an empty slice that may be nil. -/
theorem Grow.virt {A : Nat → Prop} {M : List (Option Nat)} {h : Hp} {w : World} (H : HR A M h w) (e : TypeId) : Grow A M h w (M ++ [none]) (h ++ [some ⟨e, []⟩]) w := by
  have hlive : ∀ g, Live (M ++ [none]) (h ++ [some ⟨e, []⟩]) g → Live M h g := by
    rintro g ⟨b, B, hb, hm⟩
    rcases get_snoc hm with hm' | ⟨_, hm'⟩
    · rcases get_snoc hb with hb' | ⟨rfl, _⟩
      · exact ⟨b, B, hb', hm'⟩
      · have := (List.getElem?_eq_some_iff.1 hm').1; rw [H.len] at this; omega
    · cases hm'
  have keep : ∀ cs us, VCells (Xs A M h) M w cs us → VCells (Xs A (M ++ [none]) (h ++ [some ⟨e, []⟩])) (M ++ [none]) w cs us :=
    fun cs us hh => VCells.ext (Ext.refl (Live M h) w) ⟨_, rfl⟩ (fun _ _ hl => .inr hl) (fun g hg hx => hx.elim .inl (fun hl => .inr (hlive g hl))) cs us hh
  refine ⟨⟨_, rfl⟩, ⟨by simp [H.len], H.alt, ?_, ?_, H.glob.avoid fun g _ hx => hx.elim .inl (fun h' => .inr (hlive g h'))⟩, Ext.refl _ _, fun g _ hl => hlive g hl⟩
  · intro b B hb
    rcases get_snoc hb with hb' | ⟨hbl, hB⟩
    · obtain ⟨h0, ⟨hn, hn'⟩ | ⟨g, cs, h1, h2, h3, h4, h5⟩⟩ := H.blk b B hb'
      · exact ⟨h0, .inl ⟨get_snoc_old hn, hn'⟩⟩
      · exact ⟨h0, .inr ⟨g, cs, get_snoc_old h1, h2, h3, h4, keep _ _ h5⟩⟩
    · injection hB with hB
      subst hB
      exact ⟨by simp, .inl ⟨by rw [hbl, ← H.len]; simp, rfl⟩⟩
  · intro b b' B B' g hb hb' hm hm'
    rcases get_snoc hm with m1 | ⟨_, m1⟩
    · rcases get_snoc hm' with m2 | ⟨_, m2⟩
      · rcases get_snoc hb with h1 | ⟨h1, _⟩
        · rcases get_snoc hb' with h2 | ⟨h2, _⟩
          · exact H.inj b b' B B' g h1 h2 m1 m2
          · have := (List.getElem?_eq_some_iff.1 m2).1; rw [H.len] at this; omega
        · have := (List.getElem?_eq_some_iff.1 m1).1; rw [H.len] at this; omega
      · cases m2
    · cases m1

theorem setRow_eq {w : World} {g : Nat} {cs cs' : Array Value} {e : TypeId} {f : Nat × Nat} (h : w.heap[g]? = some (.cells cs e f)) :
    w.setRow g cs' = { w with heap := w.heap.setIfInBounds g (.cells cs' e f) } := by
  have h1 := setRow_heap w g cs cs' e f h
  have hg : g < w.heap.size := (Array.getElem?_eq_some_iff.1 h).1
  have hw : w.setRow g cs' = { w with heap := (w.setRow g cs').heap } := by unfold World.setRow; rfl
  rw [hw]
  congr 1
  apply Array.ext'
  apply List.ext_getElem?
  intro i
  simp only [Array.getElem?_toList, Array.getElem?_setIfInBounds]
  by_cases hi : g = i
  · subst hi; rw [h1]; simp [hg]
  · rw [setRow_other w g i cs' (fun e => hi e.symm)]; simp [hi]

theorem append_room {P : Program} {w : World} (t ty e : TypeId) (i : TypeInfo) (ht : P.underlying t = some (.slice e)) (hi : P.info? e = some i)
    (g sLen sCap : Nat) (cur : Array Value) {f : Nat × Nat} (hfz : f = (0, 0) ∨ f = (cur.size, cur.size + 1)) (hg : w.heap[g]? = some (.cells cur e f))
    (a : Addr) (m c : Nat) (news : List Value) (hl : news.length = m * i.size) (hnews : ∀ j u, news[j]? = some u → w.cell? (a.add j) = some u) (h1 : ∀ u ∈ news, u.oneCell' = true)
    (hroom : sLen + m ≤ sCap) (hfit : sLen * i.size + news.length ≤ cur.size) :
    (Builtin.append_ #[t, t] ty #[.slice (some ⟨g, 0, none⟩) sLen sCap, .slice (some a) m c]).run P w =
      .ok (.slice (some ⟨g, 0, none⟩) (sLen + m) sCap) (w.setRow g (cur.toList.take (sLen * i.size) ++ news ++ cur.toList.drop (sLen * i.size + news.length)).toArray) := by
  have hf := run_firstCells_some (P := P) w i.size m a m c news hl hnews
  have hst := run_storeCells (P := P) hfz news (sLen * i.size) 0 w cur rfl hg h1 (by simpa using hfit)
  simp only [Nat.add_zero] at hst
  rw [setRow_eq hg]
  simp [Builtin.append_, run_underlying ht, sizeOf, typeInfo, hi, Builtin.lenOf, hroom, hf, Addr.add_lit, hst, splice]

/-- What is appended: the elements' cells, and how many elements. -/
structure Src (X : Nat → Prop) (M : List (Option Nat)) (w : World) (k : Nat) (news : List V) (m : Nat) (v : Value) : Prop where
  one : ∀ c ∈ news, c.one = true
  len : news.length = m * k
  is : (∃ c, v = .slice none 0 c ∧ m = 0) ∨ ∃ ad c vs, v = .slice (some ad) m c ∧ VCells X M w news vs ∧ LiesAt w ad vs.toArray

/-- append to a local row, or to nil. -/
theorem append_sound {P : Program} {A : Nat → Prop} {M : List (Option Nat)} {h : Hp} {w : World} (H : HR A M h w) {t ty e : TypeId} {d dt : TI} (ht : tiOf P t = some dt) (hts : dt.desc = .slice e) (hd : tiOf P e = some d)
    (hz : d.zero.cells.size = d.size) (h0 : 0 < d.size) {v x : Value} {b n m : Nat} {B : Blk} {news : List V}
    (hb : h[b]? = some (some B)) (he : B.e = e) (hn : n * d.size ≤ B.cells.length) {ag : Bool} (hv : VR (Xs A M h) M w (.sl b 0 n d.size ag) v)
    (hs : Src (Xs A M h) M w d.size news m x) (hlim : (n + m) * d.bytes ≤ lim) (hby : 1 ≤ d.bytes) :
    ∃ v' w' M', (Builtin.append_ #[t, t] ty #[v, x]).run P w = .ok v' w' ∧ Grow A M h w M' (h.set b none ++ [some ⟨e, B.cells.take (n * d.size) ++ news⟩]) w' ∧
      VR (Xs A M' (h.set b none ++ [some ⟨e, B.cells.take (n * d.size) ++ news⟩])) M' w' (.sl h.length 0 (n + m) d.size ag) v' := by
  obtain ⟨hu, _, _, _, _, _⟩ := tiOf_spec ht
  rw [hts] at hu
  obtain ⟨_, i, hi, hsz, hbt, hzz⟩ := tiOf_spec hd
  have hnm : n + m ≤ lim := Nat.le_trans (by have := Nat.mul_le_mul_left (n + m) hby; omega) hlim
  have hB1 := (H.blk b B hb).1
  have h1 : ∀ c ∈ B.cells.take (n * d.size) ++ news, c.one = true := by
    intro c hc
    rcases List.mem_append.1 hc with hc | hc
    · exact hB1 c (List.mem_of_mem_take hc)
    · exact hs.one c hc
  have hlV : (B.cells.take (n * d.size) ++ news).length = (n + m) * d.size := by
    rw [List.length_append, List.length_take, hs.len, Nat.min_eq_left hn, Nat.add_mul]
  unfold VR at hv
  have hlenM : h.length = M.length := H.len.symm
  rcases hv with ⟨hM, rfl, rfl, _⟩ | ⟨g, cap, e', sz', hM, rfl, hnc, hcm, _, hshape, hszle⟩
  · -- the base is nil
    have hBc : B.cells = [] := by
      rcases (H.blk b B hb).2 with ⟨_, hh⟩ | ⟨g, cs, hg, _⟩
      · exact hh
      · rw [hM] at hg; cases hg
    simp only [Nat.zero_mul, List.take_zero, List.nil_append, Nat.zero_add] at *
    have K := Grow.kill H b
    rcases hs.is with ⟨c, rfl, rfl⟩ | ⟨ad, c, vs, rfl, hc, hl⟩
    · have hnews : news = [] := List.eq_nil_of_length_eq_zero (by simpa using hs.len)
      subst hnews
      refine ⟨.slice none 0 0, w, M ++ [none], ?_, K.trans (Grow.virt K.hr e), ?_⟩
      · simp [Builtin.append_, run_underlying hu, sizeOf, typeInfo, hi, Builtin.lenOf, Builtin.firstCells]
      · unfold VR; exact .inl ⟨by rw [hlenM]; simp, rfl, rfl, rfl⟩
    · rcases Nat.eq_zero_or_pos m with rfl | hm
      · have hnews : news = [] := List.eq_nil_of_length_eq_zero (by simpa using hs.len)
        subst hnews
        refine ⟨.slice none 0 0, w, M ++ [none], ?_, K.trans (Grow.virt K.hr e), ?_⟩
        · simp [Builtin.append_, run_underlying hu, sizeOf, typeInfo, hi, Builtin.lenOf, Builtin.firstCells, loadCells, loadCellsFrom]
        · unfold VR; exact .inl ⟨by rw [hlenM]; simp, rfl, rfl, rfl⟩
      · have hr := run_append_nil (P := P) w t ty e i d.zero hu hi hzz ad m c vs (by rw [← hc.len, hs.len, hsz]) (fun j u hj => hl j u (by simpa using hj)) hm (by unfold lim at hnm; omega) (by rw [hbt]; unfold lim at hlim; omega)
        have hge := grownCap_ge w m 0 e
        have hcm : grownCap w m 0 e ≤ maxLen := grownCap_le_maxLen w m 0 e (by unfold lim at hnm; simp only [maxLen]; omega)
        have hvl : vs.length = m * d.size := by rw [← hc.len, hs.len]
        have Gd := K.trans (Grow.drew K.hr)
        have G := Gd.trans (Grow.alloc Gd.hr e news (vs.toArray ++ Builtin.zeroCells d.zero.cells (grownCap w m 0 e - m)) (by simp [hc.len]) (by
          have : (vs.toArray ++ Builtin.zeroCells d.zero.cells (grownCap w m 0 e - m)).toList.take news.length = vs := by
            rw [Array.toList_append, hc.len]; exact List.take_left
          rw [this]
          exact VCells.ext Gd.ext (List.prefix_refl _) (fun _ _ hl => .inr hl) (fun k hk hx => hx.elim .inl (fun hl => .inr (Gd.live k hk hl))) _ _ hc) hs.one)
        refine ⟨_, _, _, hr, G, ?_⟩
        unfold VR
        refine .inr ⟨w.heap.size, grownCap w m 0 e, e, _, by rw [hlenM]; simp, rfl, hge, hcm, h0, ?_, Nat.le_refl _⟩
        show World.shape? (w.drew.alloc _) w.heap.size = _
        unfold World.shape?
        rw [show (w.drew.alloc (.cells (vs.toArray ++ Builtin.zeroCells d.zero.cells (grownCap w m 0 e - m)) e)).heap[w.heap.size]? = some (.cells (vs.toArray ++ Builtin.zeroCells d.zero.cells (grownCap w m 0 e - m)) e) from heap_alloc_new w.drew _]
        simp only [Array.size_append, List.size_toArray, size_zeroCells, hz, hvl, ← Nat.add_mul]
        rw [show m + (grownCap w m 0 e - m) = grownCap w m 0 e by omega, Nat.zero_add]
  · -- the base lies in block g
    obtain ⟨g', cs, hg', hA, hh, hle, hcs⟩ := (H.blk b B hb).2.resolve_left (fun hn => by rw [hM] at hn; cases hn.1)
    rw [hM] at hg'; injection hg' with hg'; injection hg' with hg'; subst hg'
    obtain ⟨f, hf, hh⟩ := hh.inCells hshape
    have hcsz : cap * d.size ≤ cs.size := by
      unfold World.shape? at hshape
      rw [hh] at hshape
      simp only [Option.some.injEq, Prod.mk.injEq] at hshape
      omega
    have hlA : LiesAt w ⟨g, 0, none⟩ (cs.toList.take (n * d.size)).toArray := fun j u hu => by
      have hadd : (⟨g, 0, none⟩ : Addr).add j = ⟨g, j, none⟩ := by unfold Addr.add; split <;> simp_all
      rw [hadd, cell_of_row w g j cs B.e f hh]
      simp only [List.getElem?_toArray, List.getElem?_take] at hu
      split at hu
      · simpa using hu
      · cases hu
    have hxsl : (cs.toList.take (n * d.size)).length = n * d.size := by simp; omega
    have hxs : VCells (Xs A M h) M w (B.cells.take (n * d.size)) (cs.toList.take (n * d.size)) := by
      have := hcs.take (n * d.size)
      rwa [List.take_take, Nat.min_eq_left hn] at this
    -- the source's values
    obtain ⟨vs, hvs, hrunRoom, hrunGrow⟩ : ∃ vs, VCells (Xs A M h) M w news vs ∧
        (n + m ≤ cap → (Builtin.append_ #[t, t] ty #[.slice (some ⟨g, 0, none⟩) n cap, x]).run P w = .ok (.slice (some ⟨g, 0, none⟩) (n + m) cap) (w.setRow g (cs.toList.take (n * d.size) ++ vs ++ cs.toList.drop (n * d.size + vs.length)).toArray)) ∧
        (cap < n + m → (Builtin.append_ #[t, t] ty #[.slice (some ⟨g, 0, none⟩) n cap, x]).run P w = .ok (.slice (some ⟨w.heap.size, 0, none⟩) (n + m) (grownCap w (n + m) cap e))
          (w.drew.alloc (.cells ((cs.toList.take (n * d.size)).toArray ++ vs.toArray ++ Builtin.zeroCells d.zero.cells (grownCap w (n + m) cap e - (n + m))) e))) := by
      rcases hs.is with ⟨c, rfl, rfl⟩ | ⟨ad, c, vs, rfl, hc, hl⟩
      · have hnews : news = [] := List.eq_nil_of_length_eq_zero (by simpa using hs.len)
        subst hnews
        refine ⟨[], by unfold VCells; rfl, fun hroom => ?_, fun hh => by omega⟩
        have e1 : (cs.toList.take (n * d.size) ++ [] ++ cs.toList.drop (n * d.size + ([] : List Value).length)).toArray = cs := by simp
        rw [e1]
        have e2 : w.setRow g cs = w := by
          rw [setRow_eq hh]
          have hgl : g < w.heap.size := (Array.getElem?_eq_some_iff.1 hh).1
          have : w.heap.setIfInBounds g (.cells cs B.e f) = w.heap := by
            apply Array.ext'
            apply List.ext_getElem?
            intro j
            simp only [Array.getElem?_toList, Array.getElem?_setIfInBounds]
            by_cases hj : g = j
            · subst hj; rw [hh]; simp [hgl]
            · simp [hj]
          rw [this]
        rw [e2]
        simp [Builtin.append_, run_underlying hu, sizeOf, typeInfo, hi, Builtin.lenOf, Builtin.firstCells, hnc, storeCells]
      · have hvl : vs.length = m * i.size := by rw [← hc.len, hs.len, hsz]
        have hone := VCells.oneCell hc (List.all_eq_true.2 hs.one)
        refine ⟨vs, hc, fun hroom => ?_, fun hgr => ?_⟩
        · have := append_room (P := P) (w := w) t ty e i hu hi g n cap cs hf (he ▸ hh) ad m c vs hvl (fun j u hj => hl j u (by simpa using hj)) hone hroom (by
            rw [hvl, hsz, ← Nat.add_mul]; exact Nat.le_trans (Nat.mul_le_mul_right _ hroom) hcsz)
          rw [hsz] at this
          exact this
        · exact run_append_grow (P := P) w t ty e i d.zero hu hi hzz ⟨g, 0, none⟩ n cap (cs.toList.take (n * d.size)) (by rw [hxsl, hsz]) (fun j u hj => hlA j u (by simpa using hj)) ad m c vs hvl (fun j u hj => hl j u (by simpa using hj)) hgr
            (by unfold lim at hnm; omega) (growslice_fits hgr (by rw [hbt]; exact hlim))
    have hvsl : vs.length = m * d.size := by rw [← hvs.len, hs.len]
    rcases Nat.lt_or_ge cap (n + m) with hgr | hroom
    · have hr := hrunGrow hgr
      have hge := grownCap_ge w (n + m) cap e
      have hcm' : grownCap w (n + m) cap e ≤ maxLen := grownCap_le_maxLen w (n + m) cap e (by unfold lim at hnm; simp only [maxLen]; omega)
      have K := Grow.kill H b
      have Gd := K.trans (Grow.drew K.hr)
      have G := Gd.trans (Grow.alloc Gd.hr e (B.cells.take (n * d.size) ++ news) ((cs.toList.take (n * d.size)).toArray ++ vs.toArray ++ Builtin.zeroCells d.zero.cells (grownCap w (n + m) cap e - (n + m)))
        (by rw [hlV]; simp only [Array.size_append, List.size_toArray, hxsl, hvsl, ← Nat.add_mul]; omega) (by
        have : ((cs.toList.take (n * d.size)).toArray ++ vs.toArray ++ Builtin.zeroCells d.zero.cells (grownCap w (n + m) cap e - (n + m))).toList.take (B.cells.take (n * d.size) ++ news).length = cs.toList.take (n * d.size) ++ vs := by
          rw [hlV, Array.toList_append, Array.toList_append]
          have : (n + m) * d.size = ((cs.toList.take (n * d.size)).toArray.toList ++ vs.toArray.toList).length := by
            simp only [List.length_append, hxsl, hvsl, ← Nat.add_mul]
          rw [this]
          exact List.take_left
        rw [this]
        exact VCells.ext Gd.ext (List.prefix_refl _) (fun _ _ hl => .inr hl) (fun k hk hx => hx.elim .inl (fun hl => .inr (Gd.live k hk hl))) _ _ (hxs.append hvs)) h1)
      refine ⟨_, _, _, hr, G, ?_⟩
      unfold VR
      refine .inr ⟨w.heap.size, grownCap w (n + m) cap e, e, _, by rw [hlenM]; simp, rfl, hge, hcm', h0, ?_, Nat.le_refl _⟩
      unfold World.shape?
      rw [show (w.drew.alloc (.cells ((cs.toList.take (n * d.size)).toArray ++ vs.toArray ++ Builtin.zeroCells d.zero.cells (grownCap w (n + m) cap e - (n + m))) e)).heap[w.heap.size]? = some (.cells ((cs.toList.take (n * d.size)).toArray ++ vs.toArray ++ Builtin.zeroCells d.zero.cells (grownCap w (n + m) cap e - (n + m))) e) from heap_alloc_new w.drew _]
      simp only [Array.size_append, List.size_toArray, size_zeroCells, hz, hxsl, hvsl, ← Nat.add_mul]
      rw [show n + m + (grownCap w (n + m) cap e - (n + m)) = grownCap w (n + m) cap e by omega, Nat.zero_add]
    · have hr := hrunRoom hroom
      have hfit : n * d.size + vs.length ≤ cs.size := by rw [hvsl, ← Nat.add_mul]; exact Nat.le_trans (Nat.mul_le_mul_right _ hroom) hcsz
      have hsz' : (cs.toList.take (n * d.size) ++ vs ++ cs.toList.drop (n * d.size + vs.length)).toArray.size = cs.size := by simp; omega
      rw [setRow_eq hh] at hr
      have hE : Ext (Live M h) w { w with heap := w.heap.setIfInBounds g (.cells (cs.toList.take (n * d.size) ++ vs ++ cs.toList.drop (n * d.size + vs.length)).toArray B.e f) } := Ext.setBlock hh hsz' ⟨b, B, hb, hM⟩
      have hgl : g < w.heap.size := (Array.getElem?_eq_some_iff.1 hh).1
      refine ⟨_, _, M ++ [some g], hr, Grow.move (e := e) (cs' := (cs.toList.take (n * d.size) ++ vs ++ cs.toList.drop (n * d.size + vs.length)).toArray) H hb hM hE (fun k hk hkl => ?_) (.inl ⟨f, by rw [hsz']; exact hf, by rw [← he]; simp [hgl]⟩) ?_ ?_ h1, ?_⟩
      · show (w.heap.setIfInBounds g _)[k]? = _
        rw [Array.getElem?_setIfInBounds_ne (Ne.symm hk)]
      · rw [hsz', hlV]; exact Nat.le_trans (Nat.mul_le_mul_right _ hroom) hcsz
      · have : (cs.toList.take (n * d.size) ++ vs ++ cs.toList.drop (n * d.size + vs.length)).toArray.toList.take (B.cells.take (n * d.size) ++ news).length = cs.toList.take (n * d.size) ++ vs := by
          rw [hlV]
          have : (n + m) * d.size = (cs.toList.take (n * d.size) ++ vs).length := by simp only [List.length_append, hxsl, hvsl, ← Nat.add_mul]
          rw [this]
          exact List.take_left
        rw [this]
        exact hxs.append hvs
      · unfold VR
        exact .inr ⟨g, cap, e', sz', by rw [hlenM]; simp, rfl, hroom, hcm, h0, hE.shape _ _ hshape, hszle⟩
end Go.Vm
