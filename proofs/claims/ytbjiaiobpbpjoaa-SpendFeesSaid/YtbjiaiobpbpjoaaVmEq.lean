import Derived.Test.YtbjiaiobpbpjoaaVmStl
set_option linter.unusedSimpArgs false
set_option linter.unusedVariables false
namespace Go.Vm
open Go

/-! ### Types that are flat: numbers, truth values, texts, and arrays and structs of such -/
def flatFs (P : Program) (g : TypeId → Option (List TypeDesc)) : List Field → Nat → Option (List TypeDesc)
  | [], _ => some []
  | f :: fs, off => if f.name = "_" ∨ f.offset ≠ off then none else match tiOf P f.type, g f.type with
    | some d, some l => if d.size = l.length ∧ 0 < d.size then (flatFs P g fs (off + l.length)).map (l ++ ·) else none
    | _, _ => none
def flatTy (P : Program) : Nat → TypeId → Option (List TypeDesc)
  | 0, _ => none
  | d + 1, t => match tiOf P t with
    | some ⟨.int k, sz, _, _⟩ => if sz = 1 then some [.int k] else none
    | some ⟨.bool, sz, _, _⟩ => if sz = 1 then some [.bool] else none
    | some ⟨.string, sz, _, _⟩ => if sz = 1 then some [.string] else none
    | some ⟨.array n e, sz, _, _⟩ => match tiOf P e, flatTy P d e with
      | some de, some l => if de.size = l.length ∧ sz = n * l.length then some (List.replicate n l).flatten else none
      | _, _ => none
    | some ⟨.struct fs, sz, _, _⟩ => if P.stoodInHeld t = true then none else match flatFs P (flatTy P d) fs.toList 0 with
      | some l => if sz = l.length then some l else none
      | none => none
    | _ => none
def mkT (ti : TI) (vs : List Value) : Value := if isAggD ti.desc then .agg vs.toArray else vs.headD default
def okVs : List TypeDesc → List Value → Bool
  | [], [] => true
  | .int k :: ds, .int k' _ :: vs => decide (k = k') && okVs ds vs
  | .bool :: ds, .bool _ :: vs => okVs ds vs
  | .string :: ds, .string _ :: vs => okVs ds vs
  | _, _ => false
def valEq : Value → Value → Bool
  | .int _ a, .int _ b => a == b
  | .bool a, .bool b => a == b
  | .string a, .string b => a == b
  | _, _ => false
def valsEq : List Value → List Value → Bool
  | [], [] => true
  | x :: xs, y :: ys => valEq x y && valsEq xs ys
  | _, _ => false
theorem valsEq_app : ∀ {a c b d : List Value}, a.length = c.length → valsEq (a ++ b) (c ++ d) = (valsEq a c && valsEq b d)
  | [], [], _, _, _ => by simp [valsEq]
  | x :: a, y :: c, b, d, h => by
    simp only [List.cons_append, valsEq]
    rw [valsEq_app (by simpa using h), Bool.and_assoc]
  | [], _ :: _, _, _, h => by simp at h
  | _ :: _, [], _, _, h => by simp at h
theorem okVs_len : ∀ {ds : List TypeDesc} {vs : List Value}, okVs ds vs = true → vs.length = ds.length
  | [], [], _ => rfl
  | [], _ :: _, h => by simp [okVs] at h
  | d :: ds, [], h => by cases d <;> simp [okVs] at h
  | d :: ds, v :: vs, h => by
    have : okVs ds vs = true := by
      cases d <;> cases v <;> simp only [okVs, Bool.false_eq_true, Bool.and_eq_true] at h <;> first | exact h | exact h.2
    simp [okVs_len this]
theorem okVs_split : ∀ {l m : List TypeDesc} {vs : List Value}, okVs (l ++ m) vs = true → okVs l (vs.take l.length) = true ∧ okVs m (vs.drop l.length) = true
  | [], m, vs, h => by simpa [okVs] using h
  | d :: l, m, [], h => by cases d <;> simp [okVs] at h
  | d :: l, m, v :: vs, h => by
    cases d <;> cases v <;> simp only [List.cons_append, okVs, Bool.false_eq_true, Bool.and_eq_true] at h <;> simp only [List.length_cons, List.take_succ_cons, List.drop_succ_cons, okVs, Bool.and_eq_true]
    · exact okVs_split h
    · exact ⟨⟨h.1, (okVs_split h.2).1⟩, (okVs_split h.2).2⟩
    · exact okVs_split h
section
variable {P : Program}
theorem evalPure_partT {t : TypeId} {ti : TI} (ht : tiOf P t = some ti) {vs : List Value} {off : Nat} (h1 : isAggD ti.desc = true ∨ ti.size = 1) (hl : off + ti.size ≤ vs.length) : evalPure P (part t vs.toArray off) = some (mkT ti ((vs.drop off).take ti.size)) := by
  have hu := evalPure_underlying ht
  cases hag : isAggD ti.desc with
  | false =>
    have hs := h1.resolve_left (by rw [hag]; simp)
    have hlt : off < vs.length := by omega
    have := evalPure_part (P := P) ht hag (cs := vs.toArray) (off := off) (v := vs[off]) (by simp [hlt])
    rw [this]
    simp only [mkT, hag, Bool.false_eq_true, if_false, hs]
    rw [List.drop_eq_getElem_cons hlt]; rfl
  | true =>
    unfold part
    have h1 : evalPure P (isAgg t) = some true := by
      unfold isAgg
      rw [evalPure_bind _ _ hu]
      cases hh : ti.desc <;> first | rfl | (rw [hh] at hag; simp [isAggD] at hag)
    rw [evalPure_bind _ _ h1]
    simp only [if_true]
    rw [evalPure_bind _ _ (evalPure_sizeOf ht)]
    simp only [mkT, hag, if_true, List.extract_toArray, List.extract_eq_drop_take']
    show some _ = _
    congr 2
    simp [List.take_drop]
theorem forB {α : Type} {p : α → Bool} {body : α → Option Bool × Unit → Sem (ForInStep (Option Bool × Unit))} {k : Option Bool × Unit → Sem Bool} (h1 : ∀ r u, k (some r, u) = pure r) (h2 : ∀ u, k (none, u) = pure true) : ∀ (l : List α), (∀ a ∈ l, ∀ s, evalPure P (body a s) = some (if p a = true then .yield (none, ()) else .done (some false, ()))) →
    evalPure P (forIn l ((none, ()) : Option Bool × Unit) body >>= k) = some (l.all p)
  | [], _ => by
    simp only [List.forIn_nil, pure_bind, h2]
    rfl
  | a :: l, h => by
    simp only [List.forIn_cons, bind_assoc]
    rw [evalPure_bind _ _ (h a (by simp) _)]
    cases hp : p a with
    | true =>
      simp only [if_true, List.all_cons, hp, Bool.true_and]
      exact forB h1 h2 l (fun b hb => h b (by simp [hb]))
    | false =>
      simp only [Bool.false_eq_true, if_false, List.all_cons, hp, Bool.false_and, pure_bind, h1]
      rfl
theorem forU {α : Type} {body : α → PUnit → Sem (ForInStep PUnit)} : ∀ (l : List α), (∀ a ∈ l, ∀ s, evalPure P (body a s) = some (.yield PUnit.unit)) →
    evalPure P (do
      forIn l PUnit.unit body
      pure ()) = some ()
  | [], _ => by simp only [List.forIn_nil]; rfl
  | a :: l, h => by
    simp only [List.forIn_cons, bind_assoc]
    rw [evalPure_bind _ _ (h a (by simp) _)]
    exact forU l (fun b hb => h b (by simp [hb]))
theorem valsEq_chunks {m : Nat} {xs ys : List Value} : ∀ (c i : Nat), xs.length = (i + c) * m → ys.length = (i + c) * m → valsEq (xs.drop (i * m)) (ys.drop (i * m)) = (List.range' i c).all fun i => valsEq ((xs.drop (i * m)).take m) ((ys.drop (i * m)).take m)
  | 0, i, hx, hy => by
    rw [List.drop_eq_nil_of_le (by rw [hx]; simp), List.drop_eq_nil_of_le (by rw [hy]; simp)]
    simp [valsEq]
  | c + 1, i, hx, hy => by
    have ih := valsEq_chunks (m := m) (xs := xs) (ys := ys) c (i + 1) (by rw [hx]; congr 1; omega) (by rw [hy]; congr 1; omega)
    simp only [List.range'_succ, List.all_cons]
    rw [← ih]
    have e : (i + 1) * m = i * m + m := by rw [Nat.add_mul, Nat.one_mul]
    have hm : m ≤ (c + 1) * m := Nat.le_mul_of_pos_left m (by omega)
    have h2 : (i + (c + 1)) * m = i * m + (c + 1) * m := Nat.add_mul _ _ _
    rw [e, ← List.drop_drop, ← List.drop_drop, ← valsEq_app (by simp only [List.length_take, List.length_drop, hx, hy]), List.take_append_drop, List.take_append_drop]
theorem okVs_rep {l : List TypeDesc} : ∀ (c : Nat) {xs : List Value}, okVs (List.replicate c l).flatten xs = true → ∀ i, i < c → okVs l ((xs.drop (i * l.length)).take l.length) = true
  | 0, _, _, i, hi => by omega
  | c + 1, xs, h, i, hi => by
    simp only [List.replicate_succ, List.flatten_cons] at h
    obtain ⟨h1, h2⟩ := okVs_split h
    cases i with
    | zero => simpa using h1
    | succ i =>
      have := okVs_rep c h2 i (by omega)
      rw [List.drop_drop] at this
      rw [Nat.add_mul, Nat.one_mul, Nat.add_comm]
      exact this
/-- What is told of a field. -/
def fieldEq (P : Program) (xs ys : List Value) (f : Field) : Bool := match tiOf P f.type with
  | some d => valsEq ((xs.drop f.offset).take d.size) ((ys.drop f.offset).take d.size)
  | none => false
theorem flatFs_all {g : TypeId → Option (List TypeDesc)} {xs ys : List Value} : ∀ (fs : List Field) (off : Nat) {l : List TypeDesc}, flatFs P g fs off = some l → okVs l (xs.drop off) = true → okVs l (ys.drop off) = true →
    fs.all (fieldEq P xs ys) = valsEq (xs.drop off) (ys.drop off) ∧ ∀ f ∈ fs, f.name ≠ "_" ∧ ∃ df lf, tiOf P f.type = some df ∧ g f.type = some lf ∧ df.size = lf.length ∧ f.offset + df.size ≤ xs.length ∧ f.offset + df.size ≤ ys.length ∧
      okVs lf ((xs.drop f.offset).take df.size) = true ∧ okVs lf ((ys.drop f.offset).take df.size) = true
  | [], off, l, h, hx, hy => by
    simp only [flatFs, Option.some.injEq] at h
    subst h
    have e1 := okVs_len hx
    have e2 := okVs_len hy
    rw [List.eq_nil_of_length_eq_zero e1, List.eq_nil_of_length_eq_zero e2]
    simp [valsEq]
  | f :: fs, off, l, h, hx, hy => by
    simp only [flatFs] at h
    split at h
    · cases h
    · rename_i hno
      have hname : f.name ≠ "_" := fun e => hno (.inl e)
      have hoff : f.offset = off := Classical.byContradiction fun e => hno (.inr e)
      split at h
      · rename_i df lf hd hg
        split at h
        · rename_i hsz
          obtain ⟨hsz, h0⟩ := hsz
          simp only [Option.map_eq_some_iff] at h
          obtain ⟨l', hl', rfl⟩ := h
          obtain ⟨x1, x2⟩ := okVs_split hx
          obtain ⟨y1, y2⟩ := okVs_split hy
          rw [List.drop_drop] at x2 y2
          obtain ⟨i1, i2⟩ := flatFs_all fs (off + lf.length) hl' x2 y2
          have lx := okVs_len hx
          have ly := okVs_len hy
          simp only [List.length_drop, List.length_append] at lx ly
          have hxl : off ≤ xs.length ∨ lf.length + l'.length = 0 := by omega
          have x1l := okVs_len x1
          have y1l := okVs_len y1
          simp only [List.length_take, List.length_drop] at x1l y1l
          refine ⟨?_, ?_⟩
          · simp only [List.all_cons, i1, fieldEq, hd, hoff, hsz]
            rw [← List.drop_drop, ← List.drop_drop, ← valsEq_app (by simp only [List.length_take, List.length_drop]; omega), List.take_append_drop, List.take_append_drop]
          · intro f' hf'
            rcases List.mem_cons.1 hf' with rfl | hf'
            · exact ⟨hname, df, lf, hd, hg, hsz, by omega, by omega, by rw [hoff, hsz]; exact x1, by rw [hoff, hsz]; exact y1⟩
            · exact i2 f' hf'
        · cases h
      · cases h
theorem equal_flat : ∀ (d : Nat) {t : TypeId} {L : List TypeDesc} {ti : TI}, tiOf P t = some ti → flatTy P d t = some L → (L.length = ti.size ∧ (isAggD ti.desc = true ∨ ti.size = 1)) ∧
    ∀ (n : Nat) {xs : List Value}, okVs L xs = true → (∀ {ys : List Value}, okVs L ys = true → evalPure P (Op.equalIn (n + d) t (mkT ti xs) (mkT ti ys)) = some (valsEq xs ys)) ∧ ∀ b, evalPure P (Instr.checkKey b (n + d) t (mkT ti xs)) = some ()
  | 0, t, L, ti, _, h => by simp [flatTy] at h
  | d + 1, t, L, ti, ht, h => by
    simp only [flatTy] at h
    rw [ht] at h
    split at h
    · rename_i k sz _ _ he
      injection he with he; subst he
      split at h
      · rename_i h1
        injection h with h; subst h
        refine ⟨⟨by simp [h1], .inr h1⟩, fun n xs hx => ⟨fun {ys} hy => ?_, fun b => ?_⟩⟩
        · match xs, ys, okVs_len hx, okVs_len hy, hx, hy with
          | [.int k1 a], [.int k2 c], _, _, hx, hy =>
            simp only [okVs, Bool.and_true, decide_eq_true_eq] at hx hy
            subst hx; subst hy
            simp only [mkT, isAggD, Bool.false_eq_true, if_false, List.headD_cons, valsEq, valEq, Bool.and_true]
            exact equal_int ht _ a c
        · match xs, okVs_len hx, hx with
          | [.int k1 a], _, hx =>
            show evalPure P (Instr.checkKey b (n + d + 1) t _) = _
            rw [Instr.checkKey, evalPure_bind _ _ (evalPure_underlying ht)]
            rfl
      · cases h
    · rename_i sz _ _ he
      injection he with he; subst he
      split at h
      · rename_i h1
        injection h with h; subst h
        refine ⟨⟨by simp [h1], .inr h1⟩, fun n xs hx => ⟨fun {ys} hy => ?_, fun b => ?_⟩⟩
        · match xs, ys, hx, hy with
          | [.bool a], [.bool c], hx, hy =>
            show evalPure P (Op.equalIn (n + d + 1) t _ _) = _
            rw [Op.equalIn, evalPure_bind _ _ (evalPure_underlying ht)]
            simp only [mkT, isAggD, Bool.false_eq_true, if_false, List.headD_cons, valsEq, valEq, Bool.and_true]
            rfl
        · match xs, hx with
          | [.bool a], hx =>
            show evalPure P (Instr.checkKey b (n + d + 1) t _) = _
            rw [Instr.checkKey, evalPure_bind _ _ (evalPure_underlying ht)]
            rfl
      · cases h
    · rename_i sz _ _ he
      injection he with he; subst he
      split at h
      · rename_i h1
        injection h with h; subst h
        refine ⟨⟨by simp [h1], .inr h1⟩, fun n xs hx => ⟨fun {ys} hy => ?_, fun b => ?_⟩⟩
        · match xs, ys, hx, hy with
          | [.string a], [.string c], hx, hy =>
            show evalPure P (Op.equalIn (n + d + 1) t _ _) = _
            rw [Op.equalIn, evalPure_bind _ _ (evalPure_underlying ht)]
            simp only [mkT, isAggD, Bool.false_eq_true, if_false, List.headD_cons, valsEq, valEq, Bool.and_true]
            rfl
        · match xs, hx with
          | [.string a], hx =>
            show evalPure P (Instr.checkKey b (n + d + 1) t _) = _
            rw [Instr.checkKey, evalPure_bind _ _ (evalPure_underlying ht)]
            rfl
      · cases h
    · rename_i len e sz _ _ he
      injection he with he; subst he
      split at h
      · rename_i de l hde hle
        split at h
        · rename_i hc
          obtain ⟨hc1, hc2⟩ := hc
          injection h with h; subst h
          obtain ⟨⟨_, ag⟩, ih⟩ := equal_flat d hde hle
          have hL : (List.replicate len l).flatten.length = len * l.length := by simp
          refine ⟨⟨by rw [hL]; exact hc2.symm, .inl rfl⟩, fun n xs hx => ?_⟩
          have lx := okVs_len hx
          rw [hL] at lx
          have hxo := okVs_rep len hx
          have slot : ∀ i, i < len → i * l.length + l.length ≤ len * l.length := fun i hi => by
            have := Nat.mul_le_mul_right l.length (show i + 1 ≤ len from hi)
            rw [Nat.add_mul, Nat.one_mul] at this; exact this
          have px : ∀ i, i < len → evalPure P (part e xs.toArray (i * l.length)) = some (mkT de ((xs.drop (i * l.length)).take l.length)) := fun i hi => by
            have := evalPure_partT (P := P) hde ag (vs := xs) (off := i * l.length) (by rw [hc1, lx]; exact slot i hi)
            rw [hc1] at this; exact this
          refine ⟨fun {ys} hy => ?_, fun b => ?_⟩
          · have ly := okVs_len hy
            rw [hL] at ly
            have hyo := okVs_rep len hy
            have py : ∀ i, i < len → evalPure P (part e ys.toArray (i * l.length)) = some (mkT de ((ys.drop (i * l.length)).take l.length)) := fun i hi => by
              have := evalPure_partT (P := P) hde ag (vs := ys) (off := i * l.length) (by rw [hc1, ly]; exact slot i hi)
              rw [hc1] at this; exact this
            show evalPure P (Op.equalIn (n + d + 1) t (.agg xs.toArray) (.agg ys.toArray)) = _
            rw [Op.equalIn, evalPure_bind _ _ (evalPure_underlying ht)]
            simp only
            rw [evalPure_bind _ _ (evalPure_sizeOf hde), hc1]
            simp only [Std.Legacy.Range.forIn_eq_forIn_range', Std.Legacy.Range.size, Nat.sub_zero, Nat.add_one_sub_one, Nat.div_one]
            have hch := valsEq_chunks (m := l.length) (xs := xs) (ys := ys) len 0 (by simpa using lx) (by simpa using ly)
            simp only [Nat.zero_mul, List.drop_zero] at hch
            rw [hch]
            refine forB (fun _ _ => rfl) (fun _ => rfl) _ fun i hi s => ?_
            have hil : i < len := by simp at hi; omega
            rw [evalPure_bind _ _ (px i hil), evalPure_bind _ _ (py i hil), evalPure_bind _ _ ((ih n (hxo i hil)).1 (hyo i hil))]
            cases valsEq ((xs.drop (i * l.length)).take l.length) ((ys.drop (i * l.length)).take l.length) <;> rfl
          · show evalPure P (Instr.checkKey b (n + d + 1) t (.agg xs.toArray)) = _
            rw [Instr.checkKey, evalPure_bind _ _ (evalPure_underlying ht)]
            simp only [Std.Legacy.Range.forIn_eq_forIn_range', Std.Legacy.Range.size, Nat.sub_zero, Nat.add_one_sub_one, Nat.div_one]
            refine forU _ fun i hi s => ?_
            have hil : i < len := by simp at hi; omega
            rw [evalPure_bind _ _ (evalPure_sizeOf hde), hc1, evalPure_bind _ _ (px i hil), evalPure_bind _ _ ((ih n (hxo i hil)).2 b)]
            rfl
        · cases h
      · cases h
    · rename_i fs sz _ _ he
      injection he with he; subst he
      split at h
      · cases h
      · rename_i hst
        have hst' : P.stoodInHeld t = false := by simpa using hst
        split at h
        · rename_i l hl
          split at h
          · rename_i hsz
            injection h with h; subst h
            refine ⟨⟨hsz.symm, .inl rfl⟩, fun n xs hx => ?_⟩
            have hx0 : okVs l (xs.drop 0) = true := by simpa using hx
            refine ⟨fun {ys} hy => ?_, fun b => ?_⟩
            · have hy0 : okVs l (ys.drop 0) = true := by simpa using hy
              obtain ⟨a1, a2⟩ := flatFs_all (P := P) _ 0 hl hx0 hy0
              simp only [List.drop_zero] at a1
              show evalPure P (Op.equalIn (n + d + 1) t (.agg xs.toArray) (.agg ys.toArray)) = _
              rw [Op.equalIn, evalPure_bind _ _ (evalPure_underlying ht)]
              simp only
              have hp : evalPure P (program) = some P := rfl
              rw [evalPure_bind _ _ hp]
              simp only [hst', Bool.false_eq_true, if_false]
              rw [← a1]
              simp only [← Array.forIn_toList]
              refine forB (fun _ _ => rfl) (fun _ => rfl) _ fun f hf s => ?_
              obtain ⟨f1, df, lf, f2, f3, f4, f5, f6, f7, f8⟩ := a2 f hf
              obtain ⟨⟨_, ag⟩, ih⟩ := equal_flat d f2 f3
              simp only [f1, ne_eq, not_false_eq_true, if_true]
              rw [evalPure_bind _ _ (evalPure_partT f2 ag f5), evalPure_bind _ _ (evalPure_partT f2 ag f6), evalPure_bind _ _ ((ih n f7).1 f8)]
              simp only [fieldEq, f2]
              cases valsEq ((xs.drop f.offset).take df.size) ((ys.drop f.offset).take df.size) <;> rfl
            · obtain ⟨_, a2⟩ := flatFs_all (P := P) _ 0 hl hx0 hx0
              show evalPure P (Instr.checkKey b (n + d + 1) t (.agg xs.toArray)) = _
              rw [Instr.checkKey, evalPure_bind _ _ (evalPure_underlying ht)]
              simp only
              simp only [← Array.forIn_toList]
              refine forU _ fun f hf s => ?_
              obtain ⟨f1, df, lf, f2, f3, f4, f5, f6, f7, f8⟩ := a2 f hf
              obtain ⟨⟨_, ag⟩, ih⟩ := equal_flat d f2 f3
              simp only [f1, ne_eq, not_false_eq_true, if_true]
              rw [evalPure_bind _ _ (evalPure_partT f2 ag f5), evalPure_bind _ _ ((ih n f7).2 b)]
              rfl
          · cases h
        · cases h
    · cases h
end
end Go.Vm
