import Derived.Test.YtbjiaiobpbpjoaaVmSound
set_option linter.unusedSimpArgs false
set_option linter.unusedVariables false
namespace Go.Vm
open Go
section
variable {X : Nat → Prop} {M : List (Option Nat)} {P : Program} {w : World}

theorem foldl_set : ∀ (vs : List Value) (off j : Nat) (cs : Array Value), off + j + vs.length ≤ cs.size →
    ((vs.zipIdx j).foldl (fun (cs : Array Value) (x : Value × Nat) => cs.setIfInBounds (off + x.2) x.1) cs).toList = splice cs.toList (off + j) vs
  | [], off, j, cs, h => by simp [splice]
  | v :: vs, off, j, cs, h => by
    simp only [List.zipIdx_cons, List.foldl_cons]
    rw [foldl_set vs off (j + 1) (cs.setIfInBounds (off + j) v) (by simp at h ⊢; omega), Array.toList_setIfInBounds]
    exact splice_set _ (off + j) v vs (by simp at h ⊢; omega)

theorem fill_sound {place : Nat → Option (Nat × Nat)} : ∀ {parts : List (Nat × V)} {vparts : List (Nat × Value)} {cells : List V} {cs : Array Value} {out : List V},
    VCells X M w cells cs.toList → parts.length = vparts.length → (∀ (j : Nat) (p : Nat × V) (q : Nat × Value), parts[j]? = some p → vparts[j]? = some q → p.1 = q.1 ∧ VR X M w p.2 q.2) →
    fillV place cells parts = some out → ∃ ds, Instr.fill place cs vparts = some ds ∧ VCells X M w out ds.toList
  | [], [], cells, cs, out, hc, _, _, hf => by
    simp only [fillV, Option.some.injEq] at hf; subst hf; exact ⟨cs, rfl, hc⟩
  | [], _ :: _, _, _, _, _, hl, _, _ => by simp at hl
  | _ :: _, [], _, _, _, _, hl, _, _ => by simp at hl
  | (i, x) :: parts, (i', v) :: vparts, cells, cs, out, hc, hl, hp, hf => by
    obtain ⟨hi, hx⟩ := hp 0 (i, x) (i', v) rfl rfl
    simp only at hi hx
    subst hi
    unfold fillV at hf
    split at hf
    · cases hf
    · rename_i off size hpl
      split at hf
      · rename_i hcond
        obtain ⟨h1, h2, h3⟩ := hcond
        obtain ⟨c1, _⟩ := hx.cells' h1
        have hsz : v.cells.size = size := by have := c1.len; simp at this; omega
        have hcl : cells.length = cs.size := by simpa using hc.len
        have hs := foldl_set v.cells.toList off 0 cs (by simp; omega)
        have hc' : VCells X M w (splice cells off x.cells) (v.cells.toList.zipIdx.foldl (fun (cs : Array Value) (x : Value × Nat) => cs.setIfInBounds (off + x.2) x.1) cs).toList := by
          rw [hs]; exact hc.splice c1 off
        obtain ⟨ds, hd, hr⟩ := fill_sound hc' (by simpa using hl) (fun j p q hpj hqj => hp (j + 1) p q (by simpa using hpj) (by simpa using hqj)) hf
        refine ⟨ds, ?_, hr⟩
        unfold Instr.fill
        simp only [hpl, hsz]
        rw [if_neg (by simp; omega)]
        have : v.cells.zipIdx.foldl (fun (cs : Array Value) (x : Value × Nat) => cs.setIfInBounds (off + x.2) x.1) cs = v.cells.toList.zipIdx.foldl (fun (cs : Array Value) (x : Value × Nat) => cs.setIfInBounds (off + x.2) x.1) cs := by
          rw [← Array.foldl_toList, Array.toList_zipIdx]
        rw [← this] at hd
        exact hd
      · cases hf

def partsRel (X : Nat → Prop) (M : List (Option Nat)) (w : World) (parts : List (Nat × V)) (vparts : List (Nat × Value)) : Prop :=
  parts.length = vparts.length ∧ ∀ (j : Nat) (p : Nat × V) (q : Nat × Value), parts[j]? = some p → vparts[j]? = some q → p.1 = q.1 ∧ VR X M w p.2 q.2

theorem buildV_sound {t : TypeId} {parts : List (Nat × V)} {vparts : Array (Nat × Value)} {r : V} (hp : partsRel X M w parts vparts.toList) (hr : buildV P t parts = some r) :
    ∃ u, (Instr.build t vparts).run P w = .ok u w ∧ VR X M w r u := by
  unfold buildV at hr
  split at hr
  · rename_i fields sz by_ z ht
    split at hr
    · rename_i places hpl
      simp only [Option.map_eq_some_iff] at hr
      obtain ⟨out, hf, rfl⟩ := hr
      unfold placesOf at hpl
      rw [ht] at hpl
      simp only at hpl
      have hrun := evalPure_run _ hpl w
      obtain ⟨ds, hd, hc⟩ := fill_sound (VCells_ofCell (X := X) (M := M) (w := w) z.cells.toList) hp.1 hp.2 hf
      refine ⟨.agg ds, ?_, by unfold VR; exact ⟨ds.toList, by simp, hc⟩⟩
      unfold Instr.build
      rw [Sem.run_bind, run_zero ht, Result.andThen_ok, Sem.run_bind, run_under ht, Result.andThen_ok]
      simp only
      rw [Sem.run_bind, hrun, Result.andThen_ok]
      have hz : (⟨z.cells.toList⟩ : Array Value) = z.cells := by simp
      simp only [hd]
      rfl
    · cases hr
  · rename_i n e sz by_ z ht
    split at hr
    · rename_i d hd
      simp only [Option.map_eq_some_iff] at hr
      obtain ⟨out, hf, rfl⟩ := hr
      obtain ⟨ds, hds, hc⟩ := fill_sound (VCells_ofCell (X := X) (M := M) (w := w) z.cells.toList) hp.1 hp.2 hf
      refine ⟨.agg ds, ?_, by unfold VR; exact ⟨ds.toList, by simp, hc⟩⟩
      unfold Instr.build
      rw [Sem.run_bind, run_zero ht, Result.andThen_ok, Sem.run_bind, run_under ht, Result.andThen_ok]
      simp only
      rw [Sem.run_bind, run_sizeOf hd, Result.andThen_ok]
      simp only [hds]
      rfl
    · cases hr
  · cases hr

theorem VRow.drop {k : Nat} : ∀ (n : Nat) {es : List V} {ad : Addr}, VRow X M w k es ad → VRow X M w k (es.drop n) (ad.add (n * k))
  | 0, es, ad, h => by simpa [Addr.add] using h
  | n + 1, [], ad, h => by simp only [List.drop_nil]; unfold VRow; trivial
  | n + 1, e :: es, ad, h => by
    unfold VRow at h
    have := VRow.drop n h.2
    rw [add_add] at this
    rwa [show (n + 1) * k = k + n * k by rw [Nat.add_mul, Nat.one_mul, Nat.add_comm]]
theorem VRow.take {k : Nat} : ∀ (n : Nat) {es : List V} {ad : Addr}, VRow X M w k es ad → VRow X M w k (es.take n) ad
  | 0, es, ad, h => by simp only [List.take_zero]; unfold VRow; trivial
  | n + 1, [], ad, h => by simp only [List.take_nil]; unfold VRow; trivial
  | n + 1, e :: es, ad, h => by
    unfold VRow at h
    simp only [List.take_succ_cons]
    unfold VRow
    exact ⟨h.1, VRow.take n h.2⟩
theorem VRow.ofCells {k : Nat} (hk : k = 1) : ∀ {cs : List V} {vs : List Value} {ad : Addr}, VCells X M w cs vs → (∀ c ∈ cs, c.one = true) → LiesAt w ad vs.toArray → VRow X M w k cs ad
  | [], vs, ad, _, _, _ => by unfold VRow; trivial
  | c :: cs, vs, ad, h, h1, hl => by
    unfold VCells at h
    obtain ⟨v, rest, rfl, hv, hc⟩ := h
    have ho := hv.oneCell (h1 c (by simp))
    unfold VRow
    subst hk
    refine ⟨⟨v, hv, by rw [cells_of_oneCell ho]; rfl, ?_⟩, VRow.ofCells rfl hc (fun c hc => h1 c (by simp [hc])) (by simpa using hl.drop 1)⟩
    rw [cells_of_oneCell ho]
    intro j u hu
    cases j with
    | zero => exact hl 0 u (by simpa using hu)
    | succ j => simp at hu

theorem run_bound {lo : Option V} {vlo : Option Value} {l : Int} {y : Nat} {code : BoundsCode} (hlo : ∀ x, lo = some x → ∃ v, vlo = some v ∧ VR X M w x v) (hn : lo = none → vlo = none) :
    ∀ x, lo = some x → asIdx x = some l → 0 ≤ l → l ≤ y → ∃ v, vlo = some v ∧ (Instr.sliceBound v y code).run P w = .ok l.toNat w := by
  intro x hx hi h0 hy
  obtain ⟨v, hv, hr⟩ := hlo x hx
  obtain ⟨k, rfl⟩ := asIdx_spec hr hi
  exact ⟨_, hv, by simp [Instr.sliceBound, asIntOf, h0, hy]⟩

/-- An optional bound and its value. -/
def OptR (X : Nat → Prop) (M : List (Option Nat)) (w : World) (o : Option V) (v : Option Value) : Prop :=
  (o = none ∧ v = none) ∨ ∃ x y, o = some x ∧ v = some y ∧ VR X M w x y

theorem run_bounds {isSlice : Bool} {len cap : Nat} {lo hi : Option V} {vlo vhi : Option Value} {l u : Int} (hlo : OptR X M w lo vlo) (hhi : OptR X M w hi vhi) (hl : asLo lo = some l) (hu : asHi hi len = some u)
    (h0 : 0 ≤ l) (hlu : l ≤ u) (huc : u ≤ cap) : (Instr.sliceBounds isSlice len cap vlo vhi none).run P w = .ok (l.toNat, u.toNat, cap) w := by
  unfold Instr.sliceBounds
  rcases hhi with ⟨rfl, rfl⟩ | ⟨xh, yh, rfl, rfl, hxh⟩
  · simp only [asHi, Option.some.injEq] at hu
    subst hu
    rcases hlo with ⟨rfl, rfl⟩ | ⟨xl, yl, rfl, rfl, hxl⟩
    · simp only [asLo, Option.some.injEq] at hl; subst hl; simp
    · simp only [asLo] at hl
      obtain ⟨k, rfl⟩ := asIdx_spec hxl hl
      simp [Instr.sliceBound, asIntOf, h0, hlu]
  · simp only [asHi] at hu
    obtain ⟨k, rfl⟩ := asIdx_spec hxh hu
    have hu0 : 0 ≤ u := by omega
    rcases hlo with ⟨rfl, rfl⟩ | ⟨xl, yl, rfl, rfl, hxl⟩
    · simp only [asLo, Option.some.injEq] at hl; subst hl; simp [Instr.sliceBound, asIntOf, hu0, huc]
    · simp only [asLo] at hl
      obtain ⟨k, rfl⟩ := asIdx_spec hxl hl
      have : l ≤ (u.toNat : Int) := by omega
      simp [Instr.sliceBound, asIntOf, h0, hu0, huc]
      intro hh
      exfalso
      omega

theorem run_slice_slice {t e : TypeId} {d dt : TI} (ht : tiOf P t = some dt) (hts : dt.desc = .slice e) (hd : tiOf P e = some d) {a : Option Addr} {len cap : Nat} {lo hi : Option V} {vlo vhi : Option Value} {l u : Int}
    (hlo : OptR X M w lo vlo) (hhi : OptR X M w hi vhi) (hl : asLo lo = some l) (hu : asHi hi len = some u) (h0 : 0 ≤ l) (hlu : l ≤ u) (huc : u ≤ cap) :
    (Instr.sliceAt t (.slice a len cap) vlo vhi none).run P w = .ok (.slice (if cap = l.toNat then a else a.map (·.add (l.toNat * d.size))) (u.toNat - l.toNat) (cap - l.toNat)) w := by
  have hun := run_under (w := w) ht
  rw [hts] at hun
  unfold Instr.sliceAt
  rw [Sem.run_bind, hun, Result.andThen_ok]
  simp only
  unfold Instr.slice
  rw [Sem.run_bind, hun, Result.andThen_ok]
  simp only
  rw [Sem.run_bind, run_bounds hlo hhi hl hu h0 hlu huc, Result.andThen_ok]
  simp only
  rw [Sem.run_bind, run_sizeOf hd, Result.andThen_ok]
  rfl

theorem sliceV_sound {A : Nat → Prop} {h : Hp} (H : HR A M h w) {t : TypeId} {x r : V} {lo hi : Option V} {v : Value} {vlo vhi : Option Value} (hx : VR (Xs A M h) M w x v) (hlo : OptR (Xs A M h) M w lo vlo) (hhi : OptR (Xs A M h) M w hi vhi)
    (hr : sliceV P t h x lo hi = some r) : ∃ u, (Instr.sliceAt t v vlo vhi none).run P w = .ok u w ∧ VR (Xs A M h) M w r u := by
  unfold sliceV at hr
  split at hr
  · rename_i e sz by_ z ht
    split at hr
    · cases hr
    · rename_i d hd
      split at hr
      · rename_i nil k es
        split at hr
        · rename_i l u hl hu
          split at hr
          · rename_i hc
            obtain ⟨hk, h0, hlu, hue⟩ := hc
            injection hr with hr; subst hr
            unfold VR at hx
            obtain ⟨a, cap, rfl, hcap, hn, hnil, hok, hrow⟩ := hx
            refine ⟨_, run_slice_slice ht rfl hd hlo hhi hl hu h0 hlu (by omega), ?_⟩
            unfold VR
            have hlen : ((es.take u.toNat).drop l.toNat).length = u.toNat - l.toNat := by simp; omega
            refine ⟨_, _, by rw [hlen], by omega, ?_, ?_, fun e he => hok e (List.mem_of_mem_take (List.mem_of_mem_drop he)), ?_⟩
            · intro hh
              split at hh
              · have := hn hh; omega
              · cases a with
                | none => have := hn rfl; omega
                | some a => cases hh
            · intro b hb
              have := hnil b hb
              split
              · exact this
              · cases a <;> simpa using this
            · intro hne
              have hlt : l.toNat < u.toNat := by
                rcases Nat.lt_or_ge l.toNat u.toNat with hh | hh
                · exact hh
                · exact absurd (List.eq_nil_of_length_eq_zero (by omega)) hne
              obtain ⟨ad, rfl, hk0, hX, hsp, hrw⟩ := hrow (by rintro rfl; simp at hue; omega)
              refine ⟨ad.add (l.toNat * d.size), by rw [if_neg (by omega)]; rfl, hk0, by rw [add_block]; exact hX, add_spot _ _ hsp, ?_⟩
              rw [← hk]
              exact (hrw.take u.toNat).drop l.toNat
          · cases hr
        · cases hr
      · rename_i b off n k ag
        split at hr
        · rename_i l u hl hu
          split at hr
          · rename_i hc
            obtain ⟨hk, h0, hlu, hue⟩ := hc
            unfold VR at hx
            rcases hx with ⟨hM, rfl, rfl, rfl⟩ | ⟨g, cap, e', sz', hg, rfl, h1, h2, h3, h4, h5⟩
            · have hu0 : u = 0 := by simp at hue; omega
              have hl0 : l = 0 := by omega
              subst hu0 hl0
              rw [if_pos rfl] at hr
              injection hr with hr; subst hr
              refine ⟨_, run_slice_slice ht rfl hd hlo hhi hl hu h0 hlu (by omega), ?_⟩
              unfold VR
              exact .inl ⟨hM, rfl, rfl, rfl⟩
            · refine ⟨_, run_slice_slice ht rfl hd hlo hhi hl hu h0 hlu (by omega), ?_⟩
              split at hr
              · rename_i hl0
                subst hl0
                injection hr with hr; subst hr
                unfold VR
                refine .inr ⟨g, cap, e', sz', hg, ?_, by omega, h2, h3, h4, h5⟩
                simp [Addr.add]
              · rename_i hl0
                split at hr
                · rename_i hlt
                  injection hr with hr; subst hr
                  unfold VR
                  refine .inr ⟨g, cap - l.toNat, e', sz', hg, ?_, by omega, by omega, h3, h4, ?_⟩
                  · rw [if_neg (by omega)]; simp [lit_add, hk]
                  · have : cap = l.toNat + (cap - l.toNat) := by omega
                    rw [Nat.add_assoc, ← Nat.add_mul, ← this]; exact h5
                · rename_i hlt
                  injection hr with hr; subst hr
                  have hlu' : l.toNat = u.toNat := by omega
                  unfold VR
                  refine ⟨_, cap - l.toNat, by rw [hlu', Nat.sub_self]; rfl, by simp, ?_, ?_, by simp, fun hne => absurd rfl hne⟩
                  · intro hh; split at hh <;> cases hh
                  · intro b hb
                    injection hb with hb
                    subst hb
                    split <;> rfl
          · cases hr
        · cases hr
      · cases hr
  · rename_i sz by_ z ht
    split at hr
    · rename_i s
      split at hr
      · rename_i l u hl hu
        split at hr
        · rename_i hc
          injection hr with hr; subst hr
          unfold VR at hx
          subst hx
          refine ⟨_, ?_, by unfold VR; rfl⟩
          have hun := run_under (w := w) ht
          unfold Instr.sliceAt
          rw [Sem.run_bind, hun, Result.andThen_ok]
          simp only
          unfold Instr.slice
          rw [Sem.run_bind, hun, Result.andThen_ok]
          simp only [Option.isSome_none, Bool.false_eq_true, if_false]
          show Sem.run P (Instr.sliceBounds false s.size s.size vlo vhi none >>= _) w = _
          rw [Sem.run_bind, run_bounds hlo hhi hl hu hc.1 hc.2.1 (by omega), Result.andThen_ok]
          rfl
        · cases hr
      · cases hr
    · cases hr
  · rename_i n e sz by_ z ht
    have hun := run_under (w := w) ht
    split at hr
    · rename_i d b off l u hd hl hu
      split at hr
      · rename_i B hb
        split at hr
        · rename_i hc
          obtain ⟨hd0, hnl, h0, hlu, hun', hoff⟩ := hc
          injection hr with hr; subst hr
          unfold VR at hx
          obtain ⟨g, sh, hg, rfl, hs⟩ := hx
          obtain ⟨cs, hh, hle, _⟩ := blk_real H hb hg
          refine ⟨.slice (some ⟨g, off + l.toNat * d.size, none⟩) (u.toNat - l.toNat) (n - l.toNat), ?_, ?_⟩
          · unfold Instr.sliceAt
            rw [Sem.run_bind, hun, Result.andThen_ok]
            simp only [Instr.sureAddr]
            show Sem.run P (Instr.sliceBounds false n n vlo vhi none >>= _) w = _
            rw [Sem.run_bind, run_bounds hlo hhi hl hu h0 (by omega) (by omega), Result.andThen_ok]
            simp only
            rw [Sem.run_bind, run_sizeOf hd, Result.andThen_ok, if_neg (by omega), lit_add]
            rfl
          · unfold VR
            refine .inr ⟨g, n - l.toNat, B.e, cs.size, hg, rfl, by omega, by unfold lim at hnl; simp only [maxLen]; omega, hd0, hh.shape hs, ?_⟩
            have : n = l.toNat + (n - l.toNat) := by omega
            rw [Nat.add_assoc, ← Nat.add_mul, ← this]; omega
        · cases hr
      · cases hr
    · rename_i d es i off l u hd hl hu
      split at hr
      · rename_i ev hev
        split at hr
        · rename_i hc
          obtain ⟨hd1, hag, h0, hlu, hun', hoff⟩ := hc
          injection hr with hr; subst hr
          unfold VR at hx
          obtain ⟨ad, k, rfl, hk, hX, hsp, hok, hrow⟩ := hx
          have hne : es ≠ [] := by rintro rfl; simp at hev
          obtain ⟨v, hv, hsz, hlies⟩ := hrow.get hev
          have hok' := hok ev (List.mem_of_getElem? hev)
          simp only [V.okElem, Bool.and_eq_true] at hok'
          obtain ⟨hcells, _⟩ := hv.cells' hok'.1
          have hl' : LiesAt w (ad.add (i * k)) v.cells.toList.toArray := by simpa using hlies
          have hl2 := (LiesAt.drop hl' (off + l.toNat)).take (u.toNat - l.toNat)
          rw [add_add] at hl2
          have hc2 := (hcells.drop (off + l.toNat)).take (u.toNat - l.toNat)
          have hone : ∀ c ∈ (ev.cells.drop (off + l.toNat)).take (u.toNat - l.toNat), c.one = true := fun c hc => List.all_eq_true.1 hok'.1 c (List.mem_of_mem_drop (List.mem_of_mem_take hc))
          have hlen : ((ev.cells.drop (off + l.toNat)).take (u.toNat - l.toNat)).length = u.toNat - l.toNat := by simp; omega
          refine ⟨.slice (some (ad.add (i * k + (off + l.toNat)))) (u.toNat - l.toNat) (n - l.toNat), ?_, ?_⟩
          · unfold Instr.sliceAt
            rw [Sem.run_bind, hun, Result.andThen_ok]
            simp only [Instr.sureAddr]
            show Sem.run P (Instr.sliceBounds false n n vlo vhi none >>= _) w = _
            rw [Sem.run_bind, run_bounds hlo hhi hl hu h0 (by omega) (by omega), Result.andThen_ok]
            simp only
            rw [Sem.run_bind, run_sizeOf hd, Result.andThen_ok, if_neg (by omega), add_add, hd1, Nat.mul_one, Nat.add_assoc]
            rfl
          · unfold VR
            refine ⟨_, _, by rw [hlen], by rw [hlen]; omega, fun hh => (by cases hh), (fun b hb => by injection hb with hb), ?_, fun _ => ⟨_, rfl, by omega, by rw [add_block]; exact hX hne, add_spot _ _ hsp, VRow.ofCells rfl hc2 hone hl2⟩⟩
            intro c hc
            have h1 := hone c hc
            have : c.cells = [c] := by cases c <;> first | rfl | simp [V.one] at h1
            simp [V.okElem, V.flatOk, this, h1]
        · cases hr
      · cases hr
    · cases hr
  · cases hr
end

section
variable {A : Nat → Prop} {M : List (Option Nat)} {h : Hp} {P : Program} {w : World}
theorem made_flat (zs : Array Value) (h0 : 0 < zs.size) : ∀ c : Nat, (madeCells zs (c * zs.size)).toList = (List.replicate c zs.toList).flatten
  | 0 => by simp [madeCells]
  | c + 1 => by
    have ih := made_flat zs h0 c
    have h1 : (madeCells zs ((c + 1) * zs.size)).toList = (madeCells zs (c * zs.size)).toList ++ zs.toList := by
      simp only [madeCells, Array.toList_map, Array.toList_range]
      rw [Nat.add_mul, Nat.one_mul, List.range_add, List.map_append]
      congr 1
      apply List.ext_getElem?
      intro i
      simp only [List.map_map, List.getElem?_map]
      rcases Nat.lt_or_ge i zs.size with hi | hi
      · rw [List.getElem?_range hi]
        simp [Nat.mul_add_mod_self_right, Nat.mod_eq_of_lt hi, hi]
      · rw [List.getElem?_eq_none (by simpa using hi), List.getElem?_eq_none (by simpa using hi)]
        rfl
    rw [h1, ih, List.replicate_succ']
    simp

theorem makeV_sound (H : HR A M h w) {t : TypeId} {l c r : V} {vl vc : Value} {h' : Hp} (hl : VR (Xs A M h) M w l vl) (hc : VR (Xs A M h) M w c vc) (hr : makeV P t l c h = some (r, h')) :
    ∃ v' w' M', (Instr.makeSlice t vl vc).run P w = .ok v' w' ∧ Grow A M h w M' h' w' ∧ VR (Xs A M' h') M' w' r v' := by
  unfold makeV at hr
  split at hr
  · rename_i e sz by_ z n m ht
    split at hr
    · rename_i d hd
      split at hr
      · rename_i hcond
        obtain ⟨h0, hnm, hlim, hby, hs0, hz1, hone⟩ := hcond
        simp only [Option.some.injEq, Prod.mk.injEq] at hr
        obtain ⟨rfl, rfl⟩ := hr
        unfold VR at hl hc
        subst hl hc
        obtain ⟨hu, _⟩ := tiOf_spec ht
        obtain ⟨_, i, hi, hsz, hbt, hzz⟩ := tiOf_spec hd
        have hN : m.toNat ≤ lim := Nat.le_trans (by have := Nat.mul_le_mul_left m.toNat hby; omega) hlim
        have hm : ((m.toNat : Nat) : Int) = m := by omega
        have hb48 : (i.bytes : Int) * m ≤ 281474976710656 := by
          rw [hbt, ← hm]
          have : ((m.toNat * d.bytes : Nat) : Int) ≤ 281474976710656 := by unfold lim at hlim; omega
          rw [Int.natCast_mul, Int.mul_comm] at this
          exact this
        have hrun := run_make (P := P) w t e i d.zero hu hi hzz .i64 .i64 n m h0 hnm hb48 (by unfold lim at hN; omega)
        rw [hsz, ← hz1] at hrun
        have hflat := made_flat d.zero.cells (by omega) m.toNat
        have hlenf : ((List.replicate m.toNat (d.zero.cells.toList.map ofCell)).flatten).length = m.toNat * d.size := by simp [hz1]
        have hmap : (List.replicate m.toNat (d.zero.cells.toList.map ofCell)).flatten = (madeCells d.zero.cells (m.toNat * d.zero.cells.size)).toList.map ofCell := by
          rw [hflat, List.map_flatten, List.map_replicate]
        have G := Grow.alloc H e ((List.replicate m.toNat (d.zero.cells.toList.map ofCell)).flatten) (madeCells d.zero.cells (m.toNat * d.zero.cells.size)) (by rw [hlenf, size_madeCells, hz1]; exact Nat.le_refl _)
          (by rw [hlenf, List.take_of_length_le (by rw [Array.length_toList, size_madeCells, hz1]; exact Nat.le_refl _), hmap]; exact VCells_ofCell _)
          (fun c hc => by
            simp only [List.mem_flatten, List.mem_replicate] at hc
            obtain ⟨l, ⟨_, rfl⟩, hc⟩ := hc
            exact List.all_eq_true.1 hone c hc)
        refine ⟨_, _, _, hrun, G, ?_⟩
        unfold VR
        refine .inr ⟨w.heap.size, m.toNat, e, _, by rw [← H.len]; simp, rfl, by omega, by unfold lim at hN; simp only [maxLen]; omega, hs0, ?_, Nat.le_refl _⟩
        unfold World.shape?
        rw [heap_alloc_new w _]
        simp [size_madeCells, hz1]
      · cases hr
    · cases hr
  · cases hr

theorem buildSliceV_sound (H : HR A M h w) {t : TypeId} {len : Nat} {parts : List (Nat × V)} {vparts : Array (Nat × Value)} {r : V} {h' : Hp} (hp : partsRel (Xs A M h) M w parts vparts.toList) (hr : buildSliceV P t len parts h = some (r, h')) :
    ∃ v' w' M', (Instr.buildSlice t len vparts).run P w = .ok v' w' ∧ Grow A M h w M' h' w' ∧ VR (Xs A M' h') M' w' r v' := by
  unfold buildSliceV at hr
  split at hr
  · rename_i e sz by_ z ht
    split at hr
    · rename_i d hd
      split at hr
      · rename_i hc
        obtain ⟨h24, hl0, hs0⟩ := hc
        split at hr
        · rename_i cells hf
          split at hr
          · rename_i hc2
            obtain ⟨hone, hlen⟩ := hc2
            simp only [Option.some.injEq, Prod.mk.injEq] at hr
            obtain ⟨rfl, rfl⟩ := hr
            obtain ⟨ds, hds, hcs⟩ := fill_sound (cs := (Array.range (len * d.size)).map (d.zero.cells[· % d.zero.cells.size]!)) (VCells_ofCell (X := Xs A M h) (M := M) (w := w) _) hp.1 hp.2 hf
            have hdl : ds.size = len * d.size := by have := hcs.len; simp at this; omega
            have G := Grow.alloc H e cells ds (by omega) (by rw [List.take_of_length_le (by simp; omega)]; exact hcs) (fun c hc => List.all_eq_true.1 hone c hc)
            refine ⟨.slice (some ⟨w.heap.size, 0, none⟩) len len, _, _, ?_, G, ?_⟩
            · unfold Instr.buildSlice
              rw [Sem.run_bind, run_under ht, Result.andThen_ok]
              simp only
              rw [Sem.run_bind, run_sizeOf hd, Result.andThen_ok]
              have hne : ¬ (len * d.size > 2 ^ 24) := by omega
              have hne0 : ¬ (len * d.size = 0) := by have := Nat.mul_pos hl0 hs0; omega
              simp [hne, hne0, run_zero hd, hds, newRow]
            · unfold VR
              refine .inr ⟨w.heap.size, len, e, _, by rw [← H.len]; simp, rfl, Nat.le_refl _, by simp only [maxLen]; have := Nat.le_mul_of_pos_right len hs0; omega, hs0, ?_, Nat.le_refl _⟩
              unfold World.shape?
              rw [heap_alloc_new w _]
              simp [hdl]
          · cases hr
        · cases hr
      · cases hr
    · cases hr
  · cases hr

theorem copyV_sound (H : HR A M h w) {t t' ty : TypeId} {x y r : V} {v u : Value} {h' : Hp} (hx : VR (Xs A M h) M w x v) (hy : VR (Xs A M h) M w y u) (hr : copyV P t x y h = some (r, h')) :
    ∃ v' w', (Builtin.copy_ #[t, t'] ty #[v, u]).run P w = .ok v' w' ∧ Grow A M h w M h' w' ∧ VR (Xs A M h') M w' r v' := by
  unfold copyV at hr
  split at hr
  · rename_i e sz by_ z ht
    split at hr
    · cases hr
    · rename_i d hd
      split at hr
      · rename_i b off n k ag news m hsrc
        have S := srcV_sound H hy hsrc
        split at hr
        · rename_i B hb
          split at hr
          · rename_i hc
            obtain ⟨rfl, hk0, hoff⟩ := hc
            simp only [Option.some.injEq, Prod.mk.injEq] at hr
            obtain ⟨rfl, rfl⟩ := hr
            obtain ⟨hu, _⟩ := tiOf_spec ht
            -- the source's first cells
            obtain ⟨vs, hvs, hlen, hfirst⟩ : ∃ vs : List Value, VCells (Xs A M h) M w (news.take (min m n * d.size)) vs ∧ (Builtin.lenOf u).run P w = .ok m w ∧
                (Builtin.firstCells d.size (min m n) u).run P w = .ok vs.toArray w := by
              rcases S.is with ⟨c, rfl, rfl⟩ | ⟨ad, c, vs, rfl, hc, hl⟩
              · refine ⟨[], by simp; unfold VCells; rfl, by simp [Builtin.lenOf], by simp [Builtin.firstCells]⟩
              · refine ⟨vs.take (min m n * d.size), hc.take _, by simp [Builtin.lenOf], ?_⟩
                have hl2 : (vs.take (min m n * d.size)).length = min m n * d.size := by
                  rw [List.length_take, ← hc.len, S.len]; exact Nat.min_eq_left (Nat.mul_le_mul_right _ (Nat.min_le_left _ _))
                exact run_firstCells_some w d.size (min m n) ad m c _ hl2 (fun j u hj => (hl.take _) j u (by simpa using hj))
            have hone : ∀ c ∈ news.take (min m n * d.size), c.one = true := fun c hc => S.one c (List.mem_of_mem_take hc)
            have hone' := VCells.oneCell hvs (List.all_eq_true.2 hone)
            have hnl : (news.take (min m n * d.size)).length = min m n * d.size := by
              rw [List.length_take, S.len]; exact Nat.min_eq_left (Nat.mul_le_mul_right _ (Nat.min_le_left _ _))
            unfold VR at hx
            rcases hx with ⟨hM, rfl, rfl, rfl⟩ | ⟨g, cap, e', sz', hg, rfl, h1, h2, h3, h4, h5⟩
            · -- nothing is copied
              have hB : B.cells = [] := by
                rcases (H.blk b B hb).2 with ⟨_, hh⟩ | ⟨g, cs, hg, _⟩
                · exact hh
                · rw [hM] at hg; cases hg
              have hset : h.set b (some ⟨B.e, splice B.cells 0 (news.take (min m 0 * d.size))⟩) = h := by
                have : (⟨B.e, splice B.cells 0 (news.take (min m 0 * d.size))⟩ : Blk) = B := by
                  cases B; simp at hB; subst hB; simp [splice]
                rw [this]
                apply List.ext_getElem?
                intro i
                by_cases hi : b = i
                · subst hi; rw [List.getElem?_set_self (List.getElem?_eq_some_iff.1 hb).1, hb]
                · rw [List.getElem?_set_ne hi]
              rw [hset]
              refine ⟨_, w, ?_, Grow.refl H, by unfold VR; rfl⟩
              have hmin : Nat.min m 0 = min m 0 := rfl
              rw [Nat.min_zero] at hfirst
              simp [Builtin.copy_, run_underlying hu, run_sizeOf hd, hlen, hfirst, goInt, hmin]
            · obtain ⟨w', hw, G⟩ := Grow.store (P := P) H hb (off := off) (news := news.take (min m n * d.size)) (vs := vs) (by rw [hnl]; have := Nat.mul_le_mul_right d.size (Nat.min_le_right m n); omega) hvs hone' hg h4 hone
              refine ⟨.int .i64 (min m n : Nat), w', ?_, G, by unfold VR; rfl⟩
              have hmin : Nat.min m n = min m n := rfl
              simp [Builtin.copy_, run_underlying hu, run_sizeOf hd, hlen, hfirst, goInt, hw, hmin]
          · cases hr
        · cases hr
      · cases hr
  · cases hr
end
section
variable {X : Nat → Prop} {M : List (Option Nat)} {P : Program} {w : World}
theorem flat_one : ∀ {es : List V}, es.all V.one = true → es.flatMap V.cells = es
  | [], _ => rfl
  | e :: es, h => by
    simp only [List.all_cons, Bool.and_eq_true] at h
    have : e.cells = [e] := by cases e <;> first | rfl | simp [V.one] at h
    simp [List.flatMap_cons, this, flat_one h.2]
theorem arrP_sound {t : TypeId} {x r : V} {v : Value} (hx : VR X M w x v) (hr : arrPV P t x = some r) : ∃ u, (Instr.arrayAt t v).run P w = .ok u w ∧ VR X M w r u := by
  unfold arrPV at hr
  split at hr
  · rename_i n e sz by_ z nil k es ht
    split at hr
    · rename_i hc
      obtain ⟨rfl, hn, hl, hone⟩ := hc
      injection hr with hr; subst hr
      unfold VR at hx
      obtain ⟨a, cap, rfl, hcap, _, _, hok, hrow⟩ := hx
      have hne : es ≠ [] := by rintro rfl; simp at hl; omega
      obtain ⟨ad, rfl, _, hX, hsp, hrw⟩ := hrow hne
      refine ⟨.pointer (some ad), ?_, ?_⟩
      · have hlt : ¬ es.length < n := by omega
        simp [Instr.arrayAt, run_under (w := w) ht, hlt]
      · have hone' : (es.take n).all V.one = true := by
          rw [List.all_eq_true] at hone ⊢
          exact fun c hc => hone c (List.mem_of_mem_take hc)
        obtain ⟨vs, f1, f2, f3, f4⟩ := (VRow.take n hrw).flat (fun e he => hok e (List.mem_of_mem_take he))
        rw [flat_one hone'] at f1 f3
        have hlen : (es.take n).length = n := by simp; omega
        unfold VR
        refine ⟨ad, n, by simp [Addr.add], hn, fun _ => hX, hsp, ?_, ?_⟩
        · intro e he
          simp only [List.mem_singleton] at he
          subst he
          simp only [V.okElem, V.flatOk, V.cells, hone', hlen, beq_self_eq_true, Bool.and_self]
        · unfold VRow
          refine ⟨⟨.agg vs.toArray, by unfold VR; exact ⟨vs, rfl, f1⟩, by simp only [Value.cells, List.size_toArray]; rw [← f1.len, hlen], f2⟩, by unfold VRow; trivial⟩
    · cases hr
  · rename_i n e sz by_ z b off m k ag ht
    split at hr
    · rename_i hc
      obtain ⟨hn, hl⟩ := hc
      injection hr with hr; subst hr
      unfold VR at hx
      rcases hx with ⟨_, _, rfl, _⟩ | ⟨g, cap, e', sz', hg, rfl, _, _, _, hs, _⟩
      · omega
      · refine ⟨.pointer (some ⟨g, off, none⟩), ?_, by unfold VR; exact ⟨g, _, hg, rfl, hs⟩⟩
        have hlt : ¬ m < n := by omega
        simp [Instr.arrayAt, run_under (w := w) ht, hlt]
    · cases hr
  · cases hr
end
end Go.Vm
