import Derived.Test.YtbjiaiobpbpjoaaVmRun
import Derived.Laws.BytesString
set_option linter.unusedSimpArgs false
set_option linter.unusedVariables false
namespace Go.Vm
open Go
section
variable {P : Program} {O : Orc} {A : Nat → Prop} {M M' : List (Option Nat)} {h h' : Hp} {w w' : World} {s : List V} {a : Act}

theorem alloc_sound (H : HR A M h w) {e : TypeId} {r : V} (hr : allocV P e h = some (r, h')) :
    ∃ v w' M', (Instr.alloc e true (.tuple #[])).run P w = .ok v w' ∧ Grow A M h w M' h' w' ∧ VR (Xs A M' h') M' w' r v := by
  unfold allocV at hr
  split at hr
  · rename_i d hd
    split at hr
    · rename_i hone
      simp only [Option.some.injEq, Prod.mk.injEq] at hr
      obtain ⟨rfl, rfl⟩ := hr
      have G := Grow.alloc H e (d.zero.cells.toList.map ofCell) d.zero.cells (by simp) (by rw [List.take_of_length_le (by simp)]; exact VCells_ofCell _) (fun c hc => List.all_eq_true.1 hone c hc)
      refine ⟨.pointer (some ⟨w.heap.size, 0, none⟩), _, _, ?_, G, by unfold VR; exact ⟨w.heap.size, _, by rw [← H.len]; simp, rfl, shape_new w _ _⟩⟩
      simp [Instr.alloc, run_zero hd, newVar, newRow]
    · cases hr
  · cases hr
theorem box_sound (H : HR A M h w) {e : TypeId} {x r : V} {v : Value} (hx : VR (Xs A M h) M w x v) (hr : boxV e x h = some (r, h')) :
    ∃ u w' M', (Instr.box e v).run P w = .ok u w' ∧ Grow A M h w M' h' w' ∧ VR (Xs A M' h') M' w' r u := by
  unfold boxV at hr
  split at hr
  · rename_i hf
    simp only [Option.some.injEq, Prod.mk.injEq] at hr
    obtain ⟨rfl, rfl⟩ := hr
    obtain ⟨c1, _⟩ := hx.cells' hf
    have hl : x.cells.length = v.cells.size := by simpa using c1.len
    have G := Grow.alloc H e x.cells v.cells (by omega) (by rw [List.take_of_length_le (by simp; omega)]; exact c1) (fun c hc => List.all_eq_true.1 hf c hc)
    refine ⟨.pointer (some ⟨w.heap.size, 0, none⟩), _, _, ?_, G, by unfold VR; exact ⟨w.heap.size, _, by rw [← H.len]; simp, rfl, shape_new w _ _⟩⟩
    simp [Instr.box, newVar, newRow]
  · cases hr

theorem call_sound (hO : OrcOk P O) (H : HR A M h w) (S : SR (Xs A M h) M w s a) {o : Oper} {c : Call} (ho : o.op = .call c) {r : V} (hr : callV P O c o.type s h = some (r, h')) : Does P o a w A M h r h' := by
  unfold callV at hr
  split at hr
  · cases hr
  · rename_i xs hxs
    have hargs := evs_sound H.glob S hxs
    have hmap : c.args.map a.eval = (c.args.toList.map a.eval).toArray := by rw [← Array.toList_map]
    obtain ⟨callee, args, argTypes⟩ := c
    simp only at *
    split at hr
    · -- len
      rename_i t x hat
      simp only [Option.map_eq_some_iff, Prod.mk.injEq] at hr
      obtain ⟨y, hy, rfl, rfl⟩ := hr
      unfold VCells at hargs
      obtain ⟨v, rest, hv, hx, hrest⟩ := hargs
      unfold VCells at hrest
      subst hrest
      have hat' : argTypes = #[t] := by simpa using congrArg List.toArray hat
      refine Does.same H (sem := Builtin.len_ #[t] o.type #[v]) ?_ (lenV_sound hx hy)
      simp only [execOp, ho, resolve, invoke, builtin, hat', hmap, hv]
      rfl
    · -- append
      rename_i t t' x y hat
      unfold VCells at hargs
      obtain ⟨v, rest, hv, hx, hrest⟩ := hargs
      unfold VCells at hrest
      obtain ⟨u, rest', hu, hy, hrest'⟩ := hrest
      unfold VCells at hrest'
      subst hrest'
      rw [hu] at hv
      have hat' : argTypes = #[t, t'] := by simpa using congrArg List.toArray hat
      refine Does.value (sem := Builtin.append_ #[t, t'] o.type #[v, u]) ?_ (appendV_sound H hx hy hr)
      simp only [execOp, ho, resolve, invoke, builtin, hat', hmap, hv]
      rfl
    · -- copy
      rename_i t t' x y hat
      unfold VCells at hargs
      obtain ⟨v, rest, hv, hx, hrest⟩ := hargs
      unfold VCells at hrest
      obtain ⟨u, rest', hu, hy, hrest'⟩ := hrest
      unfold VCells at hrest'
      subst hrest'
      rw [hu] at hv
      have hat' : argTypes = #[t, t'] := by simpa using congrArg List.toArray hat
      obtain ⟨v', w', h1, h2, h3⟩ := copyV_sound (P := P) (t' := t') (ty := o.type) H hx hy hr
      refine Does.value (sem := Builtin.copy_ #[t, t'] o.type #[v, u]) ?_ ⟨v', w', M, h1, h2, h3⟩
      simp only [execOp, ho, resolve, invoke, builtin, hat', hmap, hv]
      rfl
    · simp only [Option.map_eq_some_iff, Prod.mk.injEq] at hr
      obtain ⟨y, hy, rfl, rfl⟩ := hr
      unfold minV at hy
      split at hy
      · rename_i vs hvs
        have := VCells_vals hargs hvs
        refine Does.pureV H ?_ hy
        simp only [execOp, ho, resolve, invoke, builtin, hmap, this]
        rfl
      · cases hy
    · simp only [Option.map_eq_some_iff, Prod.mk.injEq] at hr
      obtain ⟨y, hy, rfl, rfl⟩ := hr
      unfold minV at hy
      split at hy
      · rename_i vs hvs
        have := VCells_vals hargs hvs
        refine Does.pureV H ?_ hy
        simp only [execOp, ho, resolve, invoke, builtin, hmap, this]
        rfl
      · cases hy
    · -- a Go function
      rename_i f
      have hf := hO f h _ r h' hr A M w _ H hargs
      intro K Q hK
      have hex : execOp a.eval o = callFunc f (args.toList.map a.eval).toArray := by
        simp only [execOp, ho, resolve, Deferred.ofValue, Act.eval, invoke, hmap]
        simp
      unfold Oper.wp
      rw [hex]
      rcases hf with ⟨he, hc⟩ | ⟨v, w', hv, M', hG, hr'⟩
      · rw [he]
        refine hc.mono ?_
        rintro e w' ⟨v, rfl, M', hG, hr'⟩
        exact hK v w' M' hG hr'
      · rw [hv]
        exact hK v w' M' hG hr'
    · cases hr

theorem cellInts_sound {X : Nat → Prop} : ∀ {cs : List V} {vs : List Value} {ns : List Int}, VCells X M w cs vs → cellInts cs = some ns → vs = ns.map (Value.int .u8)
  | [], vs, ns, h, hc => by unfold VCells at h; simp only [cellInts, Option.some.injEq] at hc; subst h hc; rfl
  | c :: cs, vs, ns, h, hc => by
    unfold VCells at h
    obtain ⟨v, rest, rfl, h1, h2⟩ := h
    unfold cellInts at hc
    split at hc
    · rename_i heq; cases heq
    · rename_i n cs' heq
      injection heq with e1 e2
      subst e1 e2
      simp only [Option.map_eq_some_iff] at hc
      obtain ⟨ms, hm, rfl⟩ := hc
      unfold VR at h1
      subst h1
      rw [cellInts_sound h2 hm]; rfl
    · cases hc
theorem bytesStr_sound (H : HR A M h w) {a b : TypeId} {x y : V} {v : Value} (hx : VR (Xs A M h) M w x v) (hy : bytesStrV P h a b x = some y) : ∃ u, (convert a b v).run P w = .ok u w ∧ VR (Xs A M h) M w y u := by
  unfold bytesStrV at hy
  split at hy
  · rename_i e _ _ _ _ _ _ ha hb
    split at hy
    · rename_i he
      split at hy
      · rename_i cells m hs
        simp only [Option.map_eq_some_iff] at hy
        obtain ⟨ns, hn, rfl⟩ := hy
        have S := srcV_sound H hx hs
        have hua := (tiOf_spec ha).1
        have hub := (tiOf_spec hb).1
        have hue := (tiOf_spec he).1
        rcases S.is with ⟨c, rfl, rfl⟩ | ⟨ad, c, vs, rfl, hc, hl⟩
        · have hc0 : cells = [] := List.eq_nil_of_length_eq_zero (by have := S.len; omega)
          subst hc0
          simp only [cellInts, Option.some.injEq] at hn
          subst hn
          refine ⟨.string .empty, ?_, by unfold VR; rfl⟩
          rw [run_convert_bytes_string w a b e none 0 c hua hue hub]
          simp [Conv.bytesToString, Sem.run_pure]
        · have hvs := cellInts_sound hc hn
          have hlen : vs.length = m := by have h1 := hc.len; have h2 := S.len; omega
          refine ⟨.string (strOf ns), ?_, by unfold VR; rfl⟩
          rw [run_convert_bytes_string w a b e (some ad) m c hua hue hub]
          have hld := run_loadCells (P := P) (w := w) ad vs hl
          rw [hlen, hvs] at hld
          exact run_bytesToString w ad m c ns hld
      · cases hy
    · cases hy
  · cases hy

theorem op_sound (hO : OrcOk P O) (H : HR A M h w) (S : SR (Xs A M h) M w s a) {o : Oper} {r : V} (hr : absOp P O o s h = some (r, h')) : Does P o a w A M h r h' := by
  unfold absOp at hr
  split at hr
  case h_1 x hop | h_2 x hop =>
    simp only [Option.map_eq_some_iff, Prod.mk.injEq] at hr
    obtain ⟨y, hy, rfl, rfl⟩ := hr
    exact Does.same H (sem := pure (a.eval x)) (by simp [execOp, hop]) ⟨_, rfl, ev_sound H.glob S hy⟩
  case h_3 c x y hop =>
    split at hr
    · rename_i hc
      simp only [Option.map_eq_some_iff, Prod.mk.injEq] at hr
      obtain ⟨z, hz, rfl, rfl⟩ := hr
      have hcv := ev_sound H.glob S hc
      unfold VR at hcv
      exact Does.same H (sem := pure (a.eval x)) (by simp [execOp, hop, hcv, asBool]) ⟨_, rfl, ev_sound H.glob S hz⟩
    · rename_i hc
      simp only [Option.map_eq_some_iff, Prod.mk.injEq] at hr
      obtain ⟨z, hz, rfl, rfl⟩ := hr
      have hcv := ev_sound H.glob S hc
      unfold VR at hcv
      exact Does.same H (sem := pure (a.eval y)) (by simp [execOp, hop, hcv, asBool]) ⟨_, rfl, ev_sound H.glob S hz⟩
    · cases hr
  case h_4 e hop => exact Does.value (by simp [execOp, hop]) (alloc_sound H hr)
  case h_5 e x hop =>
    simp only [Option.bind_eq_some_iff] at hr
    obtain ⟨y, hy, hr⟩ := hr
    exact Does.value (by simp [execOp, hop]) (box_sound H (ev_sound H.glob S hy) hr)
  case h_6 t parts hop =>
    simp only [Option.bind_eq_some_iff, Option.map_eq_some_iff, Prod.mk.injEq] at hr
    obtain ⟨ps, hps, y, hy, rfl, rfl⟩ := hr
    have hp := partsV_sound H.glob S hps
    refine Does.same H (sem := Instr.build t (parts.map fun (i, x) => (i, a.eval x))) (by simp [execOp, hop]) (buildV_sound ?_ hy)
    simpa using hp
  case h_7 t len parts hop =>
    simp only [Option.bind_eq_some_iff] at hr
    obtain ⟨ps, hps, hr⟩ := hr
    have hp := partsV_sound H.glob S hps
    refine Does.value (sem := Instr.buildSlice t len (parts.map fun (i, x) => (i, a.eval x))) (by simp [execOp, hop]) (buildSliceV_sound H ?_ hr)
    simpa using hp
  case h_8 t x hop =>
    simp only [Option.bind_eq_some_iff, Option.map_eq_some_iff, Prod.mk.injEq] at hr
    obtain ⟨y, hy, z, hz, rfl, rfl⟩ := hr
    exact Does.same H (by simp [execOp, hop]) (loadV_sound H (ev_sound H.glob S hy) hz)
  case h_9 t x y hop =>
    simp only [Option.bind_eq_some_iff, Option.map_eq_some_iff, Prod.mk.injEq] at hr
    obtain ⟨xa, hxa, ya, hya, z, hz, rfl, rfl⟩ := hr
    obtain ⟨w', hw, G⟩ := storeV_sound (P := P) H (ev_sound H.glob S hxa) (ev_sound H.glob S hya) hz
    intro K Q hK
    unfold Oper.wp
    have hex : execOp a.eval o = (do Instr.storeAt t (a.eval x) (a.eval y); pure .skip) := by simp [execOp, hop]
    rw [hex, Sem.run_bind, hw, Result.andThen_ok]
    exact hK undef w' M G (by unfold VR; rfl)
  case h_10 x hop =>
    simp only [Option.bind_eq_some_iff, Option.map_eq_some_iff, Prod.mk.injEq] at hr
    obtain ⟨y, hy, z, hz, rfl, rfl⟩ := hr
    have hv := ev_sound H.glob S hy
    unfold nilCheckV at hz
    split at hz
    · injection hz with hz; subst hz
      have hv' := hv
      unfold VR at hv'
      obtain ⟨g, sh, hg, hp, _⟩ := hv'
      exact Does.same H (sem := pure (a.eval x)) (by simp [execOp, hop, hp]) ⟨_, rfl, hv⟩
    · injection hz with hz; subst hz
      have hv' := hv
      unfold VR at hv'
      obtain ⟨ad, k, hp, _⟩ := hv'
      exact Does.same H (sem := pure (a.eval x)) (by simp [execOp, hop, hp]) ⟨_, rfl, hv⟩
    · cases hz
  case h_11 op t x y yt hop =>
    simp only [Option.bind_eq_some_iff, Option.map_eq_some_iff, Prod.mk.injEq] at hr
    obtain ⟨xa, hxa, ya, hya, z, hz, rfl, rfl⟩ := hr
    unfold binV at hz
    split at hz
    · rename_i u v hu hv
      have e1 := VR_toVal (ev_sound H.glob S hxa) hu
      have e2 := VR_toVal (ev_sound H.glob S hya) hv
      exact Does.pureV H (by simp [execOp, hop, e1, e2]) hz
    · cases hz
  case h_12 op t x hop =>
    simp only [Option.bind_eq_some_iff, Option.map_eq_some_iff, Prod.mk.injEq] at hr
    obtain ⟨xa, hxa, z, hz, rfl, rfl⟩ := hr
    unfold unV at hz
    split at hz
    · rename_i u hu
      have e1 := VR_toVal (ev_sound H.glob S hxa) hu
      exact Does.pureV H (by simp [execOp, hop, e1]) hz
    · cases hz
  case h_13 t u x hop =>
    simp only [Option.bind_eq_some_iff, Option.map_eq_some_iff, Prod.mk.injEq] at hr
    obtain ⟨xa, hxa, z, hz, rfl, rfl⟩ := hr
    unfold convV at hz
    split at hz
    · rename_i y hy
      injection hz with hz
      subst hz
      exact Does.same H (sem := convert t u (a.eval x)) (by simp [execOp, hop]) (bytesStr_sound H (ev_sound H.glob S hxa) hy)
    · split at hz
      · rename_i u hu
        have e1 := VR_toVal (ev_sound H.glob S hxa) hu
        exact Does.pureV H (by simp [execOp, hop, e1]) hz
      · cases hz
  case h_14 t l c hop =>
    simp only [Option.bind_eq_some_iff] at hr
    obtain ⟨la, hla, ca, hca, hr⟩ := hr
    exact Does.value (by simp [execOp, hop]) (makeV_sound H (ev_sound H.glob S hla) (ev_sound H.glob S hca) hr)
  case h_15 t x lo hi hop =>
    simp only [Option.bind_eq_some_iff, Option.map_eq_some_iff, Prod.mk.injEq] at hr
    obtain ⟨xa, hxa, la, hla, ha, hha, z, hz, rfl, rfl⟩ := hr
    exact Does.same H (by simp [execOp, hop]) (sliceV_sound H (ev_sound H.glob S hxa) (optV_sound H.glob S hla) (optV_sound H.glob S hha) hz)
  case h_16 t x f hop =>
    simp only [Option.bind_eq_some_iff, Option.map_eq_some_iff, Prod.mk.injEq] at hr
    obtain ⟨y, hy, z, hz, rfl, rfl⟩ := hr
    exact Does.same H (by simp [execOp, hop]) (fieldAt_sound (ev_sound H.glob S hy) hz)
  case h_17 t x f hop =>
    simp only [Option.bind_eq_some_iff, Option.map_eq_some_iff, Prod.mk.injEq] at hr
    obtain ⟨y, hy, z, hz, rfl, rfl⟩ := hr
    exact Does.same H (by simp [execOp, hop]) (field_sound (ev_sound H.glob S hy) hz)
  case h_18 t x i hop =>
    simp only [Option.bind_eq_some_iff, Option.map_eq_some_iff, Prod.mk.injEq] at hr
    obtain ⟨y, hy, j, hj, z, hz, rfl, rfl⟩ := hr
    exact Does.same H (by simp [execOp, hop]) (indexAt_sound (ev_sound H.glob S hy) (ev_sound H.glob S hj) hz)
  case h_19 t x i hop =>
    simp only [Option.bind_eq_some_iff, Option.map_eq_some_iff, Prod.mk.injEq] at hr
    obtain ⟨y, hy, j, hj, z, hz, rfl, rfl⟩ := hr
    exact Does.same H (by simp [execOp, hop]) (index_sound (ev_sound H.glob S hy) (ev_sound H.glob S hj) hz)
  case h_20 x i hop =>
    simp only [Option.bind_eq_some_iff, Option.map_eq_some_iff, Prod.mk.injEq] at hr
    obtain ⟨y, hy, z, hz, rfl, rfl⟩ := hr
    have hv := ev_sound H.glob S hy
    unfold extractV at hz
    split at hz
    · unfold VR at hv
      obtain ⟨vs, hvs, hc⟩ := hv
      obtain ⟨u, hu, hru⟩ := hc.get hz
      exact Does.same H (sem := Instr.extract (a.eval x) i) (by simp [execOp, hop]) ⟨u, by simp [Instr.extract, hvs, hu], hru⟩
    · cases hz
  case h_21 c hop => exact call_sound hO H S hop hr
  case h_22 t x hop =>
    simp only [Option.bind_eq_some_iff, Option.map_eq_some_iff, Prod.mk.injEq] at hr
    obtain ⟨y, hy, z, hz, rfl, rfl⟩ := hr
    exact Does.same H (by simp [execOp, hop]) (arrP_sound (ev_sound H.glob S hy) hz)
  case h_23 t hop => exact Does.value (by simp [execOp, hop]) (makeMapV_sound H hr)
  case h_24 t x k ok hop =>
    simp only [Option.bind_eq_some_iff, Option.map_eq_some_iff, Prod.mk.injEq] at hr
    obtain ⟨xa, hxa, ya, hya, z, hz, rfl, rfl⟩ := hr
    exact Does.same H (by simp [execOp, hop]) (lookupV_sound H (ev_sound H.glob S hxa) (ev_sound H.glob S hya) hz)
  case h_25 t x k y hop =>
    simp only [Option.bind_eq_some_iff, Option.map_eq_some_iff, Prod.mk.injEq] at hr
    obtain ⟨xa, hxa, ka, hka, ya, hya, z, hz, rfl, rfl⟩ := hr
    obtain ⟨w', hw, G⟩ := updV_sound (P := P) H (ev_sound H.glob S hxa) (ev_sound H.glob S hka) (ev_sound H.glob S hya) hz
    intro K Q hK
    unfold Oper.wp
    have hex : execOp a.eval o = (do Instr.mapUpdate t (a.eval x) (a.eval k) (a.eval y); pure .skip) := by simp [execOp, hop]
    rw [hex, Sem.run_bind, hw, Result.andThen_ok]
    exact hK undef w' M G (by unfold VR; rfl)
  case h_26 => cases hr

/-! ### Regions in the order of the text -/
def yV : V → Option (Option Bool)
  | .sc (.bool b) => some (some b)
  | .any => none
  | _ => some none
def wantedV (ops : Array Oper) (o : Oper) (s : List V) : Option Bool :=
  match o.guard with
  | none => some true
  | some (j, want) =>
    match (ops[j]?).bind (·.dst) with
    | none => some false
    | some t => match s[t]? with
      | none => some false
      | some x => match yV x with
        | some y => some (y == some want)
        | none => none

theorem yV_sound {X : Nat → Prop} {x : V} {v : Value} {y : Option Bool} (hx : VR X M w x v) (hy : yV x = some y) : (match some v with | some (.bool b) => some b | _ => none) = y := by
  cases x <;> simp only [yV] at hy
  case sc c =>
    unfold VR at hx; subst hx
    cases v <;> simp_all [yV]
  case any => cases hy
  all_goals
    injection hy with hy
    subst hy
    unfold VR at hx
  case row nil k es => obtain ⟨a, cap, rfl, _⟩ := hx; rfl
  case agg cs => obtain ⟨vs, rfl, _⟩ := hx; rfl
  case tup cs => obtain ⟨vs, rfl, _⟩ := hx; rfl
  case ptr b off => obtain ⟨g, sh, _, rfl, _⟩ := hx; rfl
  case mp b => obtain ⟨g, _, rfl, _⟩ := hx; rfl
  case sl b off n k ag => rcases hx with ⟨_, rfl, _⟩ | ⟨g, cap, e, sz, _, rfl, _⟩ <;> rfl
  case eptr es i off => obtain ⟨ad, k, rfl, _⟩ := hx; rfl

theorem wanted_sound {X : Nat → Prop} (S : SR X M w s a) {ops : Array Oper} {o : Oper} {b : Bool} (hb : wantedV ops o s = some b) : Region.wanted o (yielded ops a.tmps) = b := by
  unfold wantedV at hb
  unfold Region.wanted
  split at hb
  · rename_i hg; rw [hg]; injection hb
  · rename_i j want hg
    rw [hg]
    simp only
    unfold yielded
    split at hb
    · rename_i hd; rw [hd]; injection hb with hb
    · rename_i t hd
      rw [hd]
      simp only [Option.bind_some]
      split at hb
      · rename_i ht
        have : a.tmps[t]? = none := by
          rw [Array.getElem?_eq_none]
          have := List.getElem?_eq_none_iff.1 ht
          rw [← S.len]; exact this
        rw [this]
        injection hb with hb
      · rename_i x hx
        split at hb
        · rename_i y hy
          have hv := S.val t x hx
          have hlt : t < a.tmps.size := by rw [← S.len]; exact (List.getElem?_eq_some_iff.1 hx).1
          have hget : a.tmps[t]? = some (a.tmps.getD t undef) := by simp [hlt]
          rw [hget]
          have := yV_sound hv hy
          injection hb with hb
          rw [← hb, ← this]
          rfl
        · cases hb

def absStep (P : Program) (O : Orc) (ops : Array Oper) (o : Oper) (s : List V) (h : Hp) : Option (List V × Hp) :=
  match wantedV ops o s with
  | some true => (absOp P O o s h).map fun p => (putV s o.dst p.1, p.2)
  | some false => some (putV s o.dst (.sc undef), h)
  | none => none
def absOps (P : Program) (O : Orc) (ops : Array Oper) : List Oper → List V → Hp → Option (List V × Hp)
  | [], s, h => some (s, h)
  | o :: rest, s, h => (absStep P O ops o s h).bind fun p => absOps P O ops rest p.1 p.2

/-- The state of the machine at a place of the code. -/
structure Rel (A : Nat → Prop) (M : List (Option Nat)) (s : List V) (h : Hp) (a : Act) (w : World) : Prop where
  hr : HR A M h w
  sr : SR (Xs A M h) M w s a
  defers : a.defers = []

theorem put_defers (a : Act) (d : Option Tmp) (v : Value) : (a.put d v).defers = a.defers := by cases d <;> rfl

theorem step_sound (hO : OrcOk P O) (R : Rel A M s h a w) {ops : Array Oper} {i : Nat} {o : Oper} (hi : ops[i]? = some o) {s' : List V} (hr : absStep P O ops o s h = some (s', h')) {K : Act → World → Prop} {Q : Exit → Act → World → Prop}
    (hK : ∀ a' w' M', Grow A M h w M' h' w' → Rel A M' s' h' a' w' → K a' w') : wpOp P ops Q i K a w := by
  unfold wpOp
  rw [hi]
  simp only
  unfold absStep at hr
  split at hr
  · rename_i hw
    rw [wanted_sound R.sr hw, if_pos rfl]
    simp only [Option.map_eq_some_iff, Prod.mk.injEq] at hr
    obtain ⟨⟨r, h1⟩, hop, rfl, rfl⟩ := hr
    refine .inl (op_sound hO R.hr R.sr hop K Q fun v w' M' G hv => hK _ _ M' G ⟨G.hr, (SR.keep G R.sr).put o.dst hv, by rw [put_defers]; exact R.defers⟩)
  · rename_i hw
    rw [wanted_sound R.sr hw, if_neg (by simp)]
    simp only [Option.some.injEq, Prod.mk.injEq] at hr
    obtain ⟨rfl, rfl⟩ := hr
    exact hK _ _ M (Grow.refl R.hr) ⟨R.hr, R.sr.put o.dst (by unfold VR; rfl), by rw [put_defers]; exact R.defers⟩
  · cases hr

theorem ops_sound (hO : OrcOk P O) {ops : Array Oper} {Q : Exit → Act → World → Prop} : ∀ (l : List Oper) (k : Nat), (∀ j, l[j]? = ops[k + j]?) → ∀ {M : List (Option Nat)} {s : List V} {h : Hp} {a : Act} {w : World} {s' : List V} {h' : Hp},
    Rel A M s h a w → absOps P O ops l s h = some (s', h') → (∀ a' w' M', Grow A M h w M' h' w' → Rel A M' s' h' a' w' → Q .normal a' w') → wpOps P ops Q (List.range' k l.length) a w
  | [], k, hl, M, s, h, a, w, s', h', R, hr, hQ => by
    simp only [absOps, Option.some.injEq, Prod.mk.injEq] at hr
    obtain ⟨rfl, rfl⟩ := hr
    simp only [List.length_nil, List.range'_zero, wpOps]
    exact hQ a w M (Grow.refl R.hr) R
  | o :: l, k, hl, M, s, h, a, w, s', h', R, hr, hQ => by
    have h0 : ops[k]? = some o := by simpa using (hl 0).symm
    simp only [absOps, Option.bind_eq_some_iff] at hr
    obtain ⟨⟨s1, h1⟩, hs, hrest⟩ := hr
    simp only [List.length_cons, List.range'_succ]
    rw [wpOps_cons]
    refine step_sound hO R h0 hs fun a' w' M' G R' => ?_
    exact ops_sound hO l (k + 1) (fun j => by have := hl (j + 1); simpa [Nat.add_assoc, Nat.add_comm 1 j] using this) R' hrest (fun a'' w'' M'' G' R'' => hQ a'' w'' M'' (G.trans G') R'')
end
end Go.Vm
