import Derived.Test.YtbjiaiobpbpjoaaVmDo
set_option linter.unusedSimpArgs false
set_option linter.unusedVariables false
namespace Go.Vm
open Go
section
variable {X : Nat → Prop} {M : List (Option Nat)} {P : Program} {w : World}

theorem lit_add (g off n : Nat) : (⟨g, off, none⟩ : Addr).add n = ⟨g, off + n, none⟩ := by unfold Addr.add; split <;> simp_all

theorem run_fieldPlace {a : Addr} {f : Field} {d : TI} (hd : tiOf P f.type = some d) (h0 : d.size ≠ 0) : (fieldPlace a f).run P w = .ok (a.add f.offset) w := by
  unfold fieldPlace
  rw [Sem.run_bind, run_sizeOf hd, Result.andThen_ok]
  simp [h0]

theorem fieldAt_sound {s : TypeId} {x r : V} {f : Nat} {v : Value} (hx : VR X M w x v) (hr : fieldAtV P s x f = some r) : ∃ u, (Instr.fieldAt s v f).run P w = .ok u w ∧ VR X M w r u := by
  unfold fieldAtV at hr
  split at hr
  · rename_i fields sz by_ z hs
    split at hr
    · rename_i fl hfl
      split at hr
      · rename_i d hd
        split at hr
        · cases hr
        · rename_i h0
          have hu := run_under (w := w) hs
          have key : ∀ a : Addr, (Instr.fieldAt s (.pointer (some a)) f).run P w = .ok (.pointer (some (a.add fl.offset))) w := fun a => by
            unfold Instr.fieldAt
            rw [Sem.run_bind, hu, Result.andThen_ok]
            simp only [hfl]
            simp [Instr.sureAddr, run_fieldPlace hd h0]
          split at hr
          · rename_i b off
            injection hr with hr; subst hr
            unfold VR at hx
            obtain ⟨g, sh, hg, rfl, hs⟩ := hx
            exact ⟨_, key _, by unfold VR; exact ⟨g, sh, hg, by rw [lit_add], hs⟩⟩
          · rename_i es i off
            injection hr with hr; subst hr
            unfold VR at hx
            obtain ⟨ad, k, rfl, hk, hX, hsp, hok, hrow⟩ := hx
            exact ⟨_, key _, by unfold VR; exact ⟨ad, k, by rw [add_add, Nat.add_assoc], hk, hX, hsp, hok, hrow⟩⟩
          · cases hr
      · cases hr
    · cases hr
  · cases hr

theorem field_sound {s : TypeId} {x r : V} {f : Nat} {v : Value} (hx : VR X M w x v) (hr : fieldV P s x f = some r) : ∃ u, (Instr.field s v f).run P w = .ok u w ∧ VR X M w r u := by
  unfold fieldV at hr
  split at hr
  · rename_i fields sz by_ z hs
    split at hr
    · rename_i fl cs hfl
      unfold VR at hx
      obtain ⟨vs, rfl, hc⟩ := hx
      obtain ⟨u, hu, hru⟩ := part_sound (P := P) hc hr
      refine ⟨u, ?_, hru⟩
      unfold Instr.field
      rw [Sem.run_bind, run_under hs, Result.andThen_ok]
      simp only [hfl]
      simp [asAgg, hu]
    · cases hr
  · cases hr

theorem asIdx_spec {x : V} {n : Int} {v : Value} (hx : VR X M w x v) (h : asIdx x = some n) : ∃ k, v = .int k n := by
  unfold asIdx at h
  split at h
  · injection h with h; subst h; unfold VR at hx; exact ⟨_, hx⟩
  · cases h

theorem indexAt_sound {t : TypeId} {x i r : V} {v vi : Value} (hx : VR X M w x v) (hi : VR X M w i vi) (hr : indexAtV P t x i = some r) : ∃ u, (Instr.indexAt t v vi).run P w = .ok u w ∧ VR X M w r u := by
  unfold indexAtV at hr
  split at hr
  · rename_i e sz by_ z n ht hn
    obtain ⟨kk, rfl⟩ := asIdx_spec hi hn
    split at hr
    · cases hr
    · rename_i d hd
      have hu := run_under (w := w) ht
      have hsz := run_sizeOf (w := w) hd
      split at hr
      · rename_i nil k es
        split at hr
        · rename_i hc
          injection hr with hr; subst hr
          obtain ⟨hk, h0, hl⟩ := hc
          unfold VR at hx
          obtain ⟨a, cap, rfl, hcap, _, _, hok, hrow⟩ := hx
          obtain ⟨ad, rfl, hk0, hX, hsp, hrw⟩ := hrow (by rintro rfl; simp at hl; omega)
          refine ⟨.pointer (some (ad.add (n.toNat * d.size))), ?_, by unfold VR; exact ⟨ad, k, by rw [hk, Nat.add_zero], hk0, fun _ => hX, hsp, hok, hrw⟩⟩
          simp [Instr.indexAt, asIntOf, hu, hsz, h0, hl]
        · cases hr
      · rename_i b off m k ag
        split at hr
        · rename_i hc
          injection hr with hr; subst hr
          obtain ⟨hk, h0, hl⟩ := hc
          unfold VR at hx
          rcases hx with ⟨_, _, rfl, _⟩ | ⟨g, cap, e', sz', hg, rfl, _, _, _, hs, _⟩
          · simp at hl; omega
          · refine ⟨.pointer (some ⟨g, off + n.toNat * k, none⟩), ?_, by unfold VR; exact ⟨g, _, hg, rfl, hs⟩⟩
            simp [Instr.indexAt, asIntOf, hu, hsz, h0, hl, lit_add, hk]
        · cases hr
      · cases hr
  · rename_i len e sz by_ z n ht hn
    obtain ⟨kk, rfl⟩ := asIdx_spec hi hn
    split at hr
    · cases hr
    · rename_i d hd
      have hu := run_under (w := w) ht
      have hsz := run_sizeOf (w := w) hd
      split at hr
      · rename_i b off
        split at hr
        · rename_i hc
          injection hr with hr; subst hr
          obtain ⟨h0, hl⟩ := hc
          unfold VR at hx
          obtain ⟨g, sh, hg, rfl, hs⟩ := hx
          refine ⟨.pointer (some ⟨g, off + n.toNat * d.size, none⟩), ?_, by unfold VR; exact ⟨g, sh, hg, rfl, hs⟩⟩
          simp [Instr.indexAt, asIntOf, hu, hsz, h0, hl, lit_add, Instr.sureAddr]
        · cases hr
      · rename_i es j off
        split at hr
        · rename_i hc
          injection hr with hr; subst hr
          obtain ⟨h0, hl⟩ := hc
          unfold VR at hx
          obtain ⟨ad, k, rfl, hk, hX, hsp, hok, hrow⟩ := hx
          refine ⟨.pointer (some ((ad.add (j * k + off)).add (n.toNat * d.size))), ?_, by unfold VR; exact ⟨ad, k, by rw [add_add, Nat.add_assoc], hk, hX, hsp, hok, hrow⟩⟩
          simp [Instr.indexAt, asIntOf, hu, hsz, h0, hl, Instr.sureAddr]
        · cases hr
      · cases hr
  · cases hr

theorem index_sound {t : TypeId} {x i r : V} {v vi : Value} (hx : VR X M w x v) (hi : VR X M w i vi) (hr : indexV P t x i = some r) : ∃ u, (Instr.index t v vi).run P w = .ok u w ∧ VR X M w r u := by
  unfold indexV at hr
  split at hr
  · rename_i len e sz by_ z cs n ht hn
    obtain ⟨kk, rfl⟩ := asIdx_spec hi hn
    split at hr
    · rename_i d hd
      split at hr
      · rename_i hc
        unfold VR at hx
        obtain ⟨vs, rfl, hcs⟩ := hx
        obtain ⟨u, hu, hru⟩ := part_sound (P := P) hcs hr
        refine ⟨u, ?_, hru⟩
        have hun := run_under (w := w) ht
        have hsz := run_sizeOf (w := w) hd
        simp [Instr.index, asIntOf, hun, hsz, hc, hu]
      · cases hr
    · cases hr
  · rename_i sz by_ z s n ht hn
    obtain ⟨kk, rfl⟩ := asIdx_spec hi hn
    split at hr
    · rename_i h0
      split at hr
      · rename_i b hb
        injection hr with hr; subst hr
        unfold VR at hx
        subst hx
        refine ⟨_, ?_, by unfold VR; rfl⟩
        have hun := run_under (w := w) ht
        simp [Instr.index, asIntOf, hun, h0, hb]
      · cases hr
    · cases hr
  · cases hr

theorem VRow.get {k : Nat} : ∀ {es : List V} {ad : Addr}, VRow X M w k es ad → ∀ {i : Nat} {e : V}, es[i]? = some e → ∃ v, VR X M w e v ∧ v.cells.size = k ∧ LiesAt w (ad.add (i * k)) v.cells
  | [], ad, _, i, e, he => by simp at he
  | x :: es, ad, h, i, e, he => by
    unfold VRow at h
    cases i with
    | zero =>
      simp at he; subst he
      obtain ⟨v, h1, h2, h3⟩ := h.1
      exact ⟨v, h1, h2, by simpa [Addr.add] using h3⟩
    | succ i =>
      simp at he
      obtain ⟨v, h1, h2, h3⟩ := VRow.get h.2 he
      refine ⟨v, h1, h2, ?_⟩
      rw [add_add] at h3
      rwa [show (i + 1) * k = k + i * k by rw [Nat.add_mul, Nat.one_mul, Nat.add_comm]]

theorem VRow.flat {k : Nat} : ∀ {es : List V} {ad : Addr}, VRow X M w k es ad → (∀ e ∈ es, e.okElem k = true) →
    ∃ vs, VCells X M w (es.flatMap V.cells) vs ∧ LiesAt w ad vs.toArray ∧ (es.flatMap V.cells).length = es.length * k ∧ ∀ c ∈ es.flatMap V.cells, c.one = true
  | [], ad, _, _ => ⟨[], by simp only [List.flatMap_nil]; unfold VCells; rfl, fun j u hu => by simp at hu, by simp, by simp⟩
  | x :: es, ad, h, hok => by
    unfold VRow at h
    obtain ⟨⟨v, h1, h2, h3⟩, h4⟩ := h
    obtain ⟨vs, g1, g2, g3, g4⟩ := VRow.flat h4 (fun e he => hok e (by simp [he]))
    have hx := hok x (by simp)
    simp only [V.okElem, Bool.and_eq_true, beq_iff_eq] at hx
    obtain ⟨c1, _⟩ := h1.cells' hx.1
    have hl : v.cells.toList.length = k := by simpa using h2
    refine ⟨v.cells.toList ++ vs, ?_, ?_, ?_, ?_⟩
    · simp only [List.flatMap_cons]; exact c1.append g1
    · intro j u hu
      simp only [List.getElem?_toArray] at hu
      rcases Nat.lt_or_ge j k with hj | hj
      · rw [List.getElem?_append_left (by omega)] at hu
        exact h3 j u (by simpa using hu)
      · rw [List.getElem?_append_right (by omega), hl] at hu
        have := g2 (j - k) u (by simpa using hu)
        rwa [add_add, show k + (j - k) = j by omega] at this
    · simp only [List.flatMap_cons, List.length_append, g3, hx.2, List.length_cons, Nat.add_mul, Nat.one_mul]; omega
    · intro c hc
      simp only [List.flatMap_cons, List.mem_append] at hc
      rcases hc with hc | hc
      · exact List.all_eq_true.1 hx.1 c hc
      · exact g4 c hc
end

section
variable {A : Nat → Prop} {M : List (Option Nat)} {h : Hp} {P : Program} {w : World}

theorem blk_real (H : HR A M h w) {b g : Nat} {B : Blk} (hb : h[b]? = some (some B)) (hg : M[b]? = some (some g)) :
    ∃ cs : Array Value, Holds w g cs B.e B.cells.length ∧ B.cells.length ≤ cs.size ∧ VCells (Xs A M h) M w B.cells (cs.toList.take B.cells.length) := by
  obtain ⟨_, ⟨hn, _⟩ | ⟨g', cs, hg', _, h1, h2, h3⟩⟩ := H.blk b B hb
  · rw [hg] at hn; cases hn
  · rw [hg] at hg'; injection hg' with hg'; injection hg' with hg'; subst hg'; exact ⟨cs, h1, h2, h3⟩
theorem blk_lies (H : HR A M h w) {b g : Nat} {B : Blk} (hb : h[b]? = some (some B)) (hg : M[b]? = some (some g)) {sh : TypeId × Nat} (hs : w.shape? g = some sh) (off : Nat) :
    ∃ vs : List Value, VCells (Xs A M h) M w (B.cells.drop off) vs ∧ LiesAt w ⟨g, off, none⟩ vs.toArray := by
  obtain ⟨cs, h1, h2, h3⟩ := blk_real H hb hg
  refine ⟨(cs.toList.take B.cells.length).drop off, h3.drop off, fun j u hu => ?_⟩
  rw [lit_add, h1.cell hs]
  simp only [List.getElem?_toArray, List.getElem?_drop, List.getElem?_take] at hu
  split at hu
  · simpa using hu
  · cases hu

theorem loadV_sound (H : HR A M h w) {t : TypeId} {a r : V} {va : Value} (ha : VR (Xs A M h) M w a va) (hr : loadV P t h a = some r) :
    ∃ u, (Instr.loadAt t va).run P w = .ok u w ∧ VR (Xs A M h) M w r u := by
  unfold loadV at hr
  split at hr
  · rename_i b off
    split at hr
    · rename_i B hb
      unfold VR at ha
      obtain ⟨g, sh, hg, rfl, hs⟩ := ha
      obtain ⟨vs, hvs, hl⟩ := blk_lies H hb hg hs off
      obtain ⟨u, hu, hru⟩ := load_sound (P := P) hvs hl hr
      exact ⟨u, by simp [Instr.loadAt, Instr.sureAddr, hu], hru⟩
    · cases hr
  · rename_i es i off
    split at hr
    · rename_i e he
      unfold VR at ha
      obtain ⟨ad, k, rfl, hk, hX, hsp, hok, hrow⟩ := ha
      obtain ⟨v, hv, hsz, hl⟩ := hrow.get he
      have hl' : LiesAt w (ad.add (i * k)) v.cells.toList.toArray := by simpa using hl
      have hl2 := LiesAt.drop hl' off
      rw [add_add] at hl2
      have hok' := hok e (List.mem_of_getElem? he)
      simp only [V.okElem, Bool.and_eq_true] at hok'
      have hcells : VCells (Xs A M h) M w e.cells v.cells.toList := (hv.cells' hok'.1).1.lift
      obtain ⟨u, hu, hru⟩ := load_sound (P := P) (hcells.drop off) hl2 hr
      exact ⟨u, by simp [Instr.loadAt, Instr.sureAddr, hu], hru⟩
    · cases hr
  · cases hr

theorem storeV_sound (H : HR A M h w) {t : TypeId} {a x : V} {va vx : Value} {h' : Hp} (ha : VR (Xs A M h) M w a va) (hx : VR (Xs A M h) M w x vx) (hr : storeV P t h a x = some h') :
    ∃ w', (Instr.storeAt t va vx).run P w = .ok () w' ∧ Grow A M h w M h' w' := by
  unfold storeV at hr
  split at hr
  · rename_i b off d hd
    split at hr
    · rename_i B hb
      split at hr
      · rename_i hc
        injection hr with hr; subst hr
        unfold VR at ha
        obtain ⟨g, sh, hg, rfl, hs⟩ := ha
        obtain ⟨c1, c2⟩ := hx.cells' hc.1
        have hlen : vx.cells.size = d.size := by have := c1.len; simp at this; omega
        obtain ⟨w', hw, G⟩ := Grow.store (P := P) H hb (off := off) (news := x.cells) (vs := vx.cells.toList) (by omega) c1 c2 hg hs (fun c hc' => List.all_eq_true.1 hc.1 c hc')
        refine ⟨w', ?_, G⟩
        simp [Instr.storeAt, Instr.sureAddr, storeVar, run_sizeOf hd, hlen, hw]
      · cases hr
    · cases hr
  · cases hr

theorem lenV_sound {X : Nat → Prop} {t ty : TypeId} {x r : V} {v : Value} (hx : VR X M w x v) (hr : lenV P t x = some r) : ∃ u, (Builtin.len_ #[t] ty #[v]).run P w = .ok u w ∧ VR X M w r u := by
  unfold lenV at hr
  split at hr
  · split at hr
    · rename_i ht
      injection hr with hr; subst hr
      unfold VR at hx
      obtain ⟨a, cap, rfl, _⟩ := hx
      refine ⟨_, ?_, by unfold VR; rfl⟩
      simp [Builtin.len_, run_under ht, goInt]
    · cases hr
  · split at hr
    · rename_i ht
      injection hr with hr; subst hr
      unfold VR at hx
      rcases hx with ⟨_, rfl, rfl, _⟩ | ⟨g, cap, e, sz, _, rfl, _⟩
      all_goals
        refine ⟨_, ?_, by unfold VR; rfl⟩
        simp [Builtin.len_, run_under ht, goInt]
    · cases hr
  · split at hr
    · rename_i ht
      injection hr with hr; subst hr
      unfold VR at hx
      subst hx
      refine ⟨_, ?_, by unfold VR; rfl⟩
      simp [Builtin.len_, run_under ht, goInt]
    · cases hr
  · cases hr

theorem srcV_sound (H : HR A M h w) {k m : Nat} {x : V} {v : Value} {news : List V} (hx : VR (Xs A M h) M w x v) (hr : srcV h k x = some (news, m)) : Src (Xs A M h) M w k news m v := by
  unfold srcV at hr
  split at hr
  · rename_i nil k' es
    split at hr
    · rename_i hc
      simp only [Option.some.injEq, Prod.mk.injEq] at hr
      obtain ⟨rfl, rfl⟩ := hr
      unfold VR at hx
      obtain ⟨a, cap, rfl, hcap, hn, _, hok, hrow⟩ := hx
      by_cases hne : es = []
      · subst hne
        refine ⟨by simp, by simp, ?_⟩
        cases a with
        | none => exact .inl ⟨cap, rfl, rfl⟩
        | some ad => exact .inr ⟨ad, cap, [], rfl, by simp only [List.flatMap_nil]; unfold VCells; rfl, fun j u hu => by simp at hu⟩
      · obtain ⟨ad, rfl, hk, hX, hsp, hrw⟩ := hrow hne
        obtain ⟨vs, g1, g2, g3, g4⟩ := hrw.flat hok
        have hk' : k' = k := hc.resolve_right hne
        subst hk'
        exact ⟨g4, g3, .inr ⟨ad, cap, vs, rfl, g1.lift, g2⟩⟩
    · cases hr
  · rename_i b off mm k' ag
    split at hr
    · rename_i B hb
      split at hr
      · rename_i hc
        simp only [Option.some.injEq, Prod.mk.injEq] at hr
        obtain ⟨rfl, rfl⟩ := hr
        have hone := (H.blk b B hb).1
        refine ⟨fun c hc' => hone c (List.mem_of_mem_drop (List.mem_of_mem_take hc')), by simp; omega, ?_⟩
        unfold VR at hx
        rcases hx with ⟨_, rfl, rfl, _⟩ | ⟨g, cap, e, sz, hg, rfl, _, _, _, hs, _⟩
        · exact .inl ⟨0, rfl, rfl⟩
        · obtain ⟨vs, hvs, hl⟩ := blk_lies H hb hg hs off
          exact .inr ⟨_, cap, vs.take (mm * k), rfl, hvs.take _, hl.take _⟩
      · cases hr
    · cases hr
  · cases hr

theorem appendV_sound (H : HR A M h w) {t t' ty : TypeId} {x y r : V} {v u : Value} {h' : Hp} (hx : VR (Xs A M h) M w x v) (hy : VR (Xs A M h) M w y u) (hr : appendV P t t' x y h = some (r, h')) :
    ∃ v' w' M', (Builtin.append_ #[t, t'] ty #[v, u]).run P w = .ok v' w' ∧ Grow A M h w M' h' w' ∧ VR (Xs A M' h') M' w' r v' := by
  unfold appendV at hr
  split at hr
  · cases hr
  · rename_i htt
    have htt : t = t' := by simpa using htt
    subst htt
    split at hr
    · rename_i e sz by_ z ht
      split at hr
      · cases hr
      · rename_i d hd
        split at hr
        · rename_i hc
          obtain ⟨hz, h0, hby⟩ := hc
          split at hr
          · cases hr
          · rename_i news m hsrc
            have S := srcV_sound H hy hsrc
            split at hr
            · rename_i k0
              split at hr
              · rename_i hl
                simp only [Option.some.injEq, Prod.mk.injEq] at hr
                obtain ⟨rfl, rfl⟩ := hr
                have hv := VR_cellVal hx rfl
                subst hv
                have G := Grow.virt H e
                have hlen : M.length = h.length := H.len
                have S' : Src (Xs A (M ++ [none]) (h ++ [some ⟨e, []⟩])) (M ++ [none]) w d.size news m u := by
                  refine ⟨S.one, S.len, ?_⟩
                  rcases S.is with hh | ⟨ad, c, vs, h1, h2, h3⟩
                  · exact .inl hh
                  · exact .inr ⟨ad, c, vs, h1, VCells.ext G.ext G.pre (fun _ _ hl => .inr hl) (fun k hk hx => hx.elim .inl (fun hl => .inr (G.live k hk hl))) _ _ h2, h3⟩
                obtain ⟨v', w', M', hrun, G', hv'⟩ := append_sound (P := P) (ty := ty) G.hr ht rfl hd hz h0 (b := h.length) (n := 0) (m := m) (B := ⟨e, []⟩) (v := .slice none 0 0) (ag := isAggD d.desc) (by simp) rfl (by simp)
                  (by unfold VR; exact .inl ⟨by rw [← hlen]; simp, rfl, rfl, rfl⟩) S' (by simpa using hl) hby
                have e1 : (h ++ [some (⟨e, []⟩ : Blk)]).set h.length none = h ++ [none] := by simp
                rw [e1] at G' hv'
                simp only [List.take_nil, List.nil_append, Nat.zero_add, List.length_append, List.length_singleton] at G' hv'
                exact ⟨v', w', M', hrun, G.trans G', hv'⟩
              · cases hr
            · rename_i b n k ag
              split at hr
              · rename_i B hb
                split at hr
                · rename_i hc
                  simp only [Option.some.injEq, Prod.mk.injEq] at hr
                  obtain ⟨rfl, rfl⟩ := hr
                  obtain ⟨rfl, he, hn, hl⟩ := hc
                  exact append_sound (P := P) H ht rfl hd hz h0 hb he hn hx S hl hby
                · cases hr
              · cases hr
            · cases hr
        · cases hr
    · cases hr
end
end Go.Vm
