/- Texts of ours, joined: VmEq, VmAis, VmShort, VmCut, VmQ, VmX, VmY, VmZ. -/
import Derived.Test.YtnoklhehodlkaaaGreatDoorQSpendSigned2
import Derived.Scope
set_option linter.unusedSimpArgs false
set_option linter.unusedVariables false
namespace Go.Vm
open Go
def aEv (P : Program) (g : TypeId → Option (List TypeDesc)) : List Field → Nat → Option (List TypeDesc)
 | [],_ => some []
 | f :: fs,off => if f.name = "_" ∨ f.offset ≠ off then none else match aR P f.type,g f.type with
  | some d,some l => if d.size = l.length ∧ 0 < d.size then (aEv P g fs (off + l.length)).map (l ++ ·) else none
  | _,_ => none
def v4 (P : Program) : Nat → TypeId → Option (List TypeDesc)
 | 0,_ => none
 | d + 1,t => match aR P t with
  | some ⟨.int k,sz,_,_⟩ => if sz = 1 then some [.int k] else none
  | some ⟨.bool,sz,_,_⟩ => if sz = 1 then some [.bool] else none
  | some ⟨.string,sz,_,_⟩ => if sz = 1 then some [.string] else none
  | some ⟨.array n e,sz,_,_⟩ => match aR P e,v4 P d e with
   | some de,some l => if de.size = l.length ∧ sz = n * l.length then some (List.replicate n l).flatten else none
   | _,_ => none
  | some ⟨.struct fs,sz,_,_⟩ => if P.stoodInHeld t = true then none else match aEv P (v4 P d) fs.toList 0 with
   | some l => if sz = l.length then some l else none
   | none => none
  | _ => none
def mkT (ti : TI) (vs : List Value) : Value := if b6 ti.desc then .agg vs.toArray else vs.headD default
def fC : List TypeDesc → List Value → Bool
 | [],[] => true
 | .int k :: ds,.int k' _ :: vs => decide (k = k') && fC ds vs
 | .bool :: ds,.bool _ :: vs => fC ds vs
 | .string :: ds,.string _ :: vs => fC ds vs
 | _,_ => false
def aGd : Value → Value → Bool
 | .int _ a,.int _ b => a == b
 | .bool a,.bool b => a == b
 | .string a,.string b => a == b
 | _,_ => false
def fS : List Value → List Value → Bool
 | [],[] => true
 | x :: xs,y :: ys => aGd x y && fS xs ys
 | _,_ => false
theorem aDe : ∀ {a c b d : List Value},a.length = c.length → fS (a ++ b) (c ++ d) = (fS a c && fS b d)
 | [],[],_,_,_ => by simp [fS]
 | x :: a,y :: c,b,d,h => by
  simp only [List.cons_append,fS]
  rw [aDe (by simpa using h),Bool.and_assoc]
 | [],_ :: _,_,_,h => by simp at h
 | _ :: _,[],_,_,h => by simp at h
theorem kV : ∀ {ds : List TypeDesc} {vs : List Value},fC ds vs = true → vs.length = ds.length
 | [],[],_ => rfl
 | [],_ :: _,h => by simp [fC] at h
 | d :: ds,[],h => by cases d <;> simp [fC] at h
 | d :: ds,v :: vs,h => by
  have : fC ds vs = true := by
   cases d <;> cases v <;> simp only [fC,Bool.false_eq_true,Bool.and_eq_true] at h <;> first | exact h | exact h.2
  simp [kV this]
theorem sO : ∀ {l m : List TypeDesc} {vs : List Value},fC (l ++ m) vs = true → fC l (vs.take l.length) = true ∧ fC m (vs.drop l.length) = true
 | [],m,vs,h => by simpa [fC] using h
 | d :: l,m,[],h => by cases d <;> simp [fC] at h
 | d :: l,m,v :: vs,h => by
  cases d <;> cases v <;> simp only [List.cons_append,fC,Bool.false_eq_true,Bool.and_eq_true] at h <;> simp only [List.length_cons,List.take_succ_cons,List.drop_succ_cons,fC,Bool.and_eq_true]
  ·exact sO h
  ·exact ⟨⟨h.1,(sO h.2).1⟩,(sO h.2).2⟩
  ·exact sO h
section
variable {P : Program}
theorem rO {t : TypeId} {ti : TI} (ht : aR P t = some ti) {vs : List Value} {off : Nat} (h1 : b6 ti.desc = true ∨ ti.size = 1) (hl : off + ti.size ≤ vs.length) : bA P (part t vs.toArray off) = some (mkT ti ((vs.drop off).take ti.size)) := by
 have hu := cN ht
 cases hag : b6 ti.desc with
 | false =>
  have hs := h1.resolve_left (by rw [hag]; simp)
  have hlt : off < vs.length := by omega
  have := aA9 (P := P) ht hag (cs := vs.toArray) (off := off) (v := vs[off]) (by simp [hlt])
  rw [this]
  simp only [mkT,hag,Bool.false_eq_true,if_false,hs]
  rw [List.drop_eq_getElem_cons hlt]; rfl
 | true =>
  unfold part
  have h1 : bA P (isAgg t) = some true := by
   unfold isAgg
   rw [bF _ _ hu]
   cases hh : ti.desc <;> first | rfl | (rw [hh] at hag; simp [b6] at hag)
  rw [bF _ _ h1]
  simp only [if_true]
  rw [bF _ _ (tR ht)]
  simp only [mkT,hag,if_true,List.extract_toArray,List.extract_eq_drop_take']
  show some _ = _
  congr 2
  simp [List.take_drop]
theorem aOt {α : Type} {p : α → Bool} {body : α → Option Bool × Unit → Sem (ForInStep (Option Bool × Unit))} {k : Option Bool × Unit → Sem Bool} (h1 : ∀ r u,k (some r,u) = pure r) (h2 : ∀ u,k (none,u) = pure true) : ∀ (l : List α),(∀ a ∈ l,∀ s,bA P (body a s) = some (if p a = true then .yield (none,()) else .done (some false,()))) →
  bA P (forIn l ((none,()) : Option Bool × Unit) body >>= k) = some (l.all p)
 | [],_ => by
  simp only [List.forIn_nil,pure_bind,h2]
  rfl
 | a :: l,h => by
  simp only [List.forIn_cons,bind_assoc]
  rw [bF _ _ (h a (by simp) _)]
  cases hp : p a with
  | true =>
   simp only [if_true,List.all_cons,hp,Bool.true_and]
   exact aOt h1 h2 l (fun b hb => h b (by simp [hb]))
  | false =>
   simp only [Bool.false_eq_true,if_false,List.all_cons,hp,Bool.false_and,pure_bind,h1]
   rfl
theorem aOy {α : Type} {body : α → PUnit → Sem (ForInStep PUnit)} : ∀ (l : List α),(∀ a ∈ l,∀ s,bA P (body a s) = some (.yield PUnit.unit)) →
  bA P (do
   forIn l PUnit.unit body
   pure ()) = some ()
 | [],_ => by simp only [List.forIn_nil]; rfl
 | a :: l,h => by
  simp only [List.forIn_cons,bind_assoc]
  rw [bF _ _ (h a (by simp) _)]
  exact aOy l (fun b hb => h b (by simp [hb]))
theorem aDW {m : Nat} {xs ys : List Value} : ∀ (c i : Nat),xs.length = (i + c) * m → ys.length = (i + c) * m → fS (xs.drop (i * m)) (ys.drop (i * m)) = (List.range' i c).all fun i => fS ((xs.drop (i * m)).take m) ((ys.drop (i * m)).take m)
 | 0,i,hx,hy => by
  rw [List.drop_eq_nil_of_le (by rw [hx]; simp),List.drop_eq_nil_of_le (by rw [hy]; simp)]
  simp [fS]
 | c + 1,i,hx,hy => by
  have ih := aDW (m := m) (xs := xs) (ys := ys) c (i + 1) (by rw [hx]; congr 1; omega) (by rw [hy]; congr 1; omega)
  simp only [List.range'_succ,List.all_cons]
  rw [← ih]
  have e : (i + 1) * m = i * m + m := by rw [Nat.add_mul,Nat.one_mul]
  have hm : m ≤ (c + 1) * m := Nat.le_mul_of_pos_left m (by omega)
  have h2 : (i + (c + 1)) * m = i * m + (c + 1) * m := Nat.add_mul _ _ _
  rw [e,← List.drop_drop,← List.drop_drop,← aDe (by simp only [List.length_take,List.length_drop,hx,hy]),List.take_append_drop,List.take_append_drop]
theorem aFH {l : List TypeDesc} : ∀ (c : Nat) {xs : List Value},fC (List.replicate c l).flatten xs = true → ∀ i,i < c → fC l ((xs.drop (i * l.length)).take l.length) = true
 | 0,_,_,i,hi => by omega
 | c + 1,xs,h,i,hi => by
  simp only [List.replicate_succ,List.flatten_cons] at h
  obtain ⟨h1,h2⟩ := sO h
  cases i with
  | zero => simpa using h1
  | succ i =>
   have := aFH c h2 i (by omega)
   rw [List.drop_drop] at this
   rw [Nat.add_mul,Nat.one_mul,Nat.add_comm]
   exact this
def aG9 (P : Program) (xs ys : List Value) (f : Field) : Bool := match aR P f.type with
 | some d => fS ((xs.drop f.offset).take d.size) ((ys.drop f.offset).take d.size)
 | none => false
theorem aDK {g : TypeId → Option (List TypeDesc)} {xs ys : List Value} : ∀ (fs : List Field) (off : Nat) {l : List TypeDesc},aEv P g fs off = some l → fC l (xs.drop off) = true → fC l (ys.drop off) = true →
  fs.all (aG9 P xs ys) = fS (xs.drop off) (ys.drop off) ∧ ∀ f ∈ fs,f.name ≠ "_" ∧ ∃ df lf,aR P f.type = some df ∧ g f.type = some lf ∧ df.size = lf.length ∧ f.offset + df.size ≤ xs.length ∧ f.offset + df.size ≤ ys.length ∧
   fC lf ((xs.drop f.offset).take df.size) = true ∧ fC lf ((ys.drop f.offset).take df.size) = true
 | [],off,l,h,hx,hy => by
  simp only [aEv,Option.some.injEq] at h
  subst h
  have e1 := kV hx
  have e2 := kV hy
  rw [List.eq_nil_of_length_eq_zero e1,List.eq_nil_of_length_eq_zero e2]
  simp [fS]
 | f :: fs,off,l,h,hx,hy => by
  simp only [aEv] at h
  split at h
  ·cases h
  ·rename_i hno
   have hname : f.name ≠ "_" := fun e => hno (.inl e)
   have hoff : f.offset = off := Classical.byContradiction fun e => hno (.inr e)
   split at h
   ·rename_i df lf hd hg
    split at h
    ·rename_i hsz
     obtain ⟨hsz,h0⟩ := hsz
     simp only [Option.map_eq_some_iff] at h
     obtain ⟨l',hl',rfl⟩ := h
     obtain ⟨x1,x2⟩ := sO hx
     obtain ⟨y1,y2⟩ := sO hy
     rw [List.drop_drop] at x2 y2
     obtain ⟨i1,i2⟩ := aDK fs (off + lf.length) hl' x2 y2
     have lx := kV hx
     have ly := kV hy
     simp only [List.length_drop,List.length_append] at lx ly
     have hxl : off ≤ xs.length ∨ lf.length + l'.length = 0 := by omega
     have x1l := kV x1
     have y1l := kV y1
     simp only [List.length_take,List.length_drop] at x1l y1l
     refine ⟨?_, ?_⟩
     ·simp only [List.all_cons,i1,aG9,hd,hoff,hsz]
      rw [← List.drop_drop,← List.drop_drop,← aDe (by simp only [List.length_take,List.length_drop]; omega),List.take_append_drop,List.take_append_drop]
     ·intro f' hf'
      rcases List.mem_cons.1 hf' with rfl | hf'
      ·exact ⟨hname,df,lf,hd,hg,hsz,by omega,by omega,by rw [hoff,hsz]; exact x1,by rw [hoff,hsz]; exact y1⟩
      ·exact i2 f' hf'
    ·cases h
   ·cases h
theorem zD : ∀ (d : Nat) {t : TypeId} {L : List TypeDesc} {ti : TI},aR P t = some ti → v4 P d t = some L → (L.length = ti.size ∧ (b6 ti.desc = true ∨ ti.size = 1)) ∧
  ∀ (n : Nat) {xs : List Value},fC L xs = true → (∀ {ys : List Value},fC L ys = true → bA P (Op.equalIn (n + d) t (mkT ti xs) (mkT ti ys)) = some (fS xs ys)) ∧ ∀ b,bA P (Instr.checkKey b (n + d) t (mkT ti xs)) = some ()
 | 0,t,L,ti,_,h => by simp [v4] at h
 | d + 1,t,L,ti,ht,h => by
  simp only [v4] at h
  rw [ht] at h
  split at h
  ·rename_i k sz _ _ he
   injection he with he; subst he
   split at h
   ·rename_i h1
    injection h with h; subst h
    refine ⟨⟨by simp [h1],.inr h1⟩,fun n xs hx => ⟨fun {ys} hy => ?_,fun b => ?_⟩⟩
    ·match xs,ys,kV hx,kV hy,hx,hy with
     | [.int k1 a],[.int k2 c],_,_,hx,hy =>
      simp only [fC,Bool.and_true,decide_eq_true_eq] at hx hy
      subst hx; subst hy
      simp only [mkT,b6,Bool.false_eq_true,if_false,List.headD_cons,fS,aGd,Bool.and_true]
      exact aIj ht _ a c
    ·match xs,kV hx,hx with
     | [.int k1 a],_,hx =>
      show bA P (Instr.checkKey b (n + d + 1) t _) = _
      rw [Instr.checkKey,bF _ _ (cN ht)]
      rfl
   ·cases h
  ·rename_i sz _ _ he
   injection he with he; subst he
   split at h
   ·rename_i h1
    injection h with h; subst h
    refine ⟨⟨by simp [h1],.inr h1⟩,fun n xs hx => ⟨fun {ys} hy => ?_,fun b => ?_⟩⟩
    ·match xs,ys,hx,hy with
     | [.bool a],[.bool c],hx,hy =>
      show bA P (Op.equalIn (n + d + 1) t _ _) = _
      rw [Op.equalIn,bF _ _ (cN ht)]
      simp only [mkT,b6,Bool.false_eq_true,if_false,List.headD_cons,fS,aGd,Bool.and_true]
      rfl
    ·match xs,hx with
     | [.bool a],hx =>
      show bA P (Instr.checkKey b (n + d + 1) t _) = _
      rw [Instr.checkKey,bF _ _ (cN ht)]
      rfl
   ·cases h
  ·rename_i sz _ _ he
   injection he with he; subst he
   split at h
   ·rename_i h1
    injection h with h; subst h
    refine ⟨⟨by simp [h1],.inr h1⟩,fun n xs hx => ⟨fun {ys} hy => ?_,fun b => ?_⟩⟩
    ·match xs,ys,hx,hy with
     | [.string a],[.string c],hx,hy =>
      show bA P (Op.equalIn (n + d + 1) t _ _) = _
      rw [Op.equalIn,bF _ _ (cN ht)]
      simp only [mkT,b6,Bool.false_eq_true,if_false,List.headD_cons,fS,aGd,Bool.and_true]
      rfl
    ·match xs,hx with
     | [.string a],hx =>
      show bA P (Instr.checkKey b (n + d + 1) t _) = _
      rw [Instr.checkKey,bF _ _ (cN ht)]
      rfl
   ·cases h
  ·rename_i len e sz _ _ he
   injection he with he; subst he
   split at h
   ·rename_i de l hde hle
    split at h
    ·rename_i hc
     obtain ⟨hc1,hc2⟩ := hc
     injection h with h; subst h
     obtain ⟨⟨_,ag⟩,ih⟩ := zD d hde hle
     have hL : (List.replicate len l).flatten.length = len * l.length := by simp
     refine ⟨⟨by rw [hL]; exact hc2.symm,.inl rfl⟩,fun n xs hx => ?_⟩
     have lx := kV hx
     rw [hL] at lx
     have hxo := aFH len hx
     have slot : ∀ i,i < len → i * l.length + l.length ≤ len * l.length := fun i hi => by
      have := Nat.mul_le_mul_right l.length (show i + 1 ≤ len from hi)
      rw [Nat.add_mul,Nat.one_mul] at this; exact this
     have px : ∀ i,i < len → bA P (part e xs.toArray (i * l.length)) = some (mkT de ((xs.drop (i * l.length)).take l.length)) := fun i hi => by
      have := rO (P := P) hde ag (vs := xs) (off := i * l.length) (by rw [hc1,lx]; exact slot i hi)
      rw [hc1] at this; exact this
     refine ⟨fun {ys} hy => ?_,fun b => ?_⟩
     ·have ly := kV hy
      rw [hL] at ly
      have hyo := aFH len hy
      have py : ∀ i,i < len → bA P (part e ys.toArray (i * l.length)) = some (mkT de ((ys.drop (i * l.length)).take l.length)) := fun i hi => by
       have := rO (P := P) hde ag (vs := ys) (off := i * l.length) (by rw [hc1,ly]; exact slot i hi)
       rw [hc1] at this; exact this
      show bA P (Op.equalIn (n + d + 1) t (.agg xs.toArray) (.agg ys.toArray)) = _
      rw [Op.equalIn,bF _ _ (cN ht)]
      simp only
      rw [bF _ _ (tR hde),hc1]
      simp only [Std.Legacy.Range.forIn_eq_forIn_range',Std.Legacy.Range.size,Nat.sub_zero,Nat.add_one_sub_one,Nat.div_one]
      have hch := aDW (m := l.length) (xs := xs) (ys := ys) len 0 (by simpa using lx) (by simpa using ly)
      simp only [Nat.zero_mul,List.drop_zero] at hch
      rw [hch]
      refine aOt (fun _ _ => rfl) (fun _ => rfl) _ fun i hi s => ?_
      have hil : i < len := by simp at hi; omega
      rw [bF _ _ (px i hil),bF _ _ (py i hil),bF _ _ ((ih n (hxo i hil)).1 (hyo i hil))]
      cases fS ((xs.drop (i * l.length)).take l.length) ((ys.drop (i * l.length)).take l.length) <;> rfl
     ·show bA P (Instr.checkKey b (n + d + 1) t (.agg xs.toArray)) = _
      rw [Instr.checkKey,bF _ _ (cN ht)]
      simp only [Std.Legacy.Range.forIn_eq_forIn_range',Std.Legacy.Range.size,Nat.sub_zero,Nat.add_one_sub_one,Nat.div_one]
      refine aOy _ fun i hi s => ?_
      have hil : i < len := by simp at hi; omega
      rw [bF _ _ (tR hde),hc1,bF _ _ (px i hil),bF _ _ ((ih n (hxo i hil)).2 b)]
      rfl
    ·cases h
   ·cases h
  ·rename_i fs sz _ _ he
   injection he with he; subst he
   split at h
   ·cases h
   ·rename_i hst
    have hst' : P.stoodInHeld t = false := by simpa using hst
    split at h
    ·rename_i l hl
     split at h
     ·rename_i hsz
      injection h with h; subst h
      refine ⟨⟨hsz.symm,.inl rfl⟩,fun n xs hx => ?_⟩
      have hx0 : fC l (xs.drop 0) = true := by simpa using hx
      refine ⟨fun {ys} hy => ?_,fun b => ?_⟩
      ·have hy0 : fC l (ys.drop 0) = true := by simpa using hy
       obtain ⟨a1,a2⟩ := aDK (P := P) _ 0 hl hx0 hy0
       simp only [List.drop_zero] at a1
       show bA P (Op.equalIn (n + d + 1) t (.agg xs.toArray) (.agg ys.toArray)) = _
       rw [Op.equalIn,bF _ _ (cN ht)]
       simp only
       have hp : bA P (program) = some P := rfl
       rw [bF _ _ hp]
       simp only [hst',Bool.false_eq_true,if_false]
       rw [← a1]
       simp only [← Array.forIn_toList]
       refine aOt (fun _ _ => rfl) (fun _ => rfl) _ fun f hf s => ?_
       obtain ⟨f1,df,lf,f2,f3,f4,f5,f6,f7,f8⟩ := a2 f hf
       obtain ⟨⟨_,ag⟩,ih⟩ := zD d f2 f3
       simp only [f1,ne_eq,not_false_eq_true,if_true]
       rw [bF _ _ (rO f2 ag f5),bF _ _ (rO f2 ag f6),bF _ _ ((ih n f7).1 f8)]
       simp only [aG9,f2]
       cases fS ((xs.drop f.offset).take df.size) ((ys.drop f.offset).take df.size) <;> rfl
      ·obtain ⟨_,a2⟩ := aDK (P := P) _ 0 hl hx0 hx0
       show bA P (Instr.checkKey b (n + d + 1) t (.agg xs.toArray)) = _
       rw [Instr.checkKey,bF _ _ (cN ht)]
       simp only
       simp only [← Array.forIn_toList]
       refine aOy _ fun f hf s => ?_
       obtain ⟨f1,df,lf,f2,f3,f4,f5,f6,f7,f8⟩ := a2 f hf
       obtain ⟨⟨_,ag⟩,ih⟩ := zD d f2 f3
       simp only [f1,ne_eq,not_false_eq_true,if_true]
       rw [bF _ _ (rO f2 ag f5),bF _ _ ((ih n f7).2 b)]
       rfl
     ·cases h
    ·cases h
  ·cases h
end
instance : Inhabited MT := ⟨⟨0,0,⟨.bool,0,0,default⟩,⟨.bool,0,0,default⟩⟩⟩
section
variable {P : Program} {t : TypeId} {L : List TypeDesc} {ti : TI} {xo yo : Operand} {d : Nat}
theorem aGa (hg : P.eqGuardType P.depth t = false) {bo : BinOp} (hbo : bo = .eql ∨ bo = .neq) (a b : Array Value) : bA P (eqGuard bo t xo yo (.agg a) (.agg b)) = some () := by
 unfold eqGuard
 rcases hbo with rfl | rfl <;>
 ·show bA P (if (!P.eqGuardType P.depth t) = true then pure () else _) = some ()
  rw [hg]; rfl
theorem aEi (ht : aR P t = some ti) (hag : b6 ti.desc = true) (hf : v4 P d t = some L) (hd : d ≤ 10000) {xs ys : List Value} (ox : fC L xs = true) (oy : fC L ys = true) : bA P (Op.equal t (.agg xs.toArray) (.agg ys.toArray)) = some (fS xs ys) := by
 have := ((zD d ht hf).2 (10000 - d) ox).1 oy
 simp only [mkT,hag,if_true] at this
 rw [Nat.sub_add_cancel hd] at this
 exact this
theorem aNw (ht : aR P t = some ti) (hag : b6 ti.desc = true) (hf : v4 P d t = some L) (hd : d ≤ 10000) (hg : P.eqGuardType P.depth t = false) {cs ds : List V} {xs ys : List Value} {r : Bool} (hx : cs.mapM dD = some xs) (hy : ds.mapM dD = some ys) (ox : fC L xs = true) (oy : fC L ys = true) (hr : fS xs ys = r) :
  dR P .eql t xo yo (.agg cs) (.agg ds) = some (.sc (.bool r)) := by
 simp only [dR,dW,hx,hy,Option.map_some,pureV]
 rw [bF _ _ (aGa hg (.inl rfl) _ _)]
 have : bA P (binOp .eql t (.agg xs.toArray) (.agg ys.toArray)) = some (.bool (fS xs ys)) := yS _ _ (aEi ht hag hf hd ox oy)
 rw [this,hr]; rfl
theorem aIV (ht : aR P t = some ti) (hag : b6 ti.desc = true) (hf : v4 P d t = some L) (hd : d ≤ 10000) (hg : P.eqGuardType P.depth t = false) {cs ds : List V} {xs ys : List Value} {r : Bool} (hx : cs.mapM dD = some xs) (hy : ds.mapM dD = some ys) (ox : fC L xs = true) (oy : fC L ys = true) (hr : fS xs ys = r) :
  dR P .neq t xo yo (.agg cs) (.agg ds) = some (.sc (.bool (!r))) := by
 simp only [dR,dW,hx,hy,Option.map_some,pureV]
 rw [bF _ _ (aGa hg (.inr rfl) _ _)]
 have : bA P (binOp .neq t (.agg xs.toArray) (.agg ys.toArray)) = some (.bool (!(fS xs ys))) := yS _ (fun b => Value.bool !b) (aEi ht hag hf hd ox oy)
 rw [this,hr]; rfl
end
structure aCn (P : Program) (kt : TypeId) {α : Type} (VK : α → Value) (eq : α → α → Bool) : Prop where
 equal : ∀ a b,bA P (Op.equal kt (VK a) (VK b)) = some (eq a b)
 check : ∀ e a,bA P (Instr.checkKey e 10000 kt (VK a)) = some ()
 stays : ∀ a b,eq a b = true → Instr.sameBits 10000 (VK b) (VK a) = true
theorem aRZ {a b : ByteArray} (h : (a == b) = true) : a = b := by
 obtain ⟨a⟩ := a
 obtain ⟨b⟩ := b
 have h' : (a == b) = true := h
 rw [eq_of_beq h']
theorem aKW : ∀ (n : Nat) {L : List TypeDesc} {xs ys : List Value},fC L xs = true → fC L ys = true → fS xs ys = true → (ys.zip xs).all (fun (x,y) => Instr.sameBits n x y) = true
 | n,[],[],[],_,_,_ => rfl
 | n,d :: L,x :: xs,y :: ys,hx,hy,h => by
  simp only [fS,Bool.and_eq_true] at h
  have key : fC L xs = true ∧ fC L ys = true ∧ Instr.sameBits n y x = true := by
   cases d <;> cases x <;> simp only [fC,Bool.false_eq_true,Bool.and_eq_true,decide_eq_true_eq] at hx <;> cases y <;> simp only [fC,Bool.false_eq_true,Bool.and_eq_true,decide_eq_true_eq] at hy <;> simp only [aGd,beq_iff_eq] at h
   ·exact ⟨hx,hy,by cases n <;> simp [Instr.sameBits,h.1]⟩
   ·refine ⟨hx.2,hy.2, ?_⟩
    have h1 := hx.1.symm.trans hy.1
    cases n <;> simp [Instr.sameBits,h.1,h1]
   ·refine ⟨hx,hy, ?_⟩
    have h1 := aRZ h.1
    subst h1
    cases n <;> exact h.1
  simp only [List.zip_cons_cons,List.all_cons,key.2.2,Bool.true_and]
  exact aKW n key.1 key.2.1 h.2
 | n,[],_ :: _,_,hx,_,_ => by simp [fC] at hx
 | n,[],[],_ :: _,_,hy,_ => by simp [fC] at hy
 | n,d :: L,[],_,hx,_,_ => by cases d <;> simp [fC] at hx
 | n,d :: L,_ :: _,[],_,hy,_ => by cases d <;> simp [fC] at hy
theorem aLo {P : Program} {kt : TypeId} {L : List TypeDesc} {ti : TI} {d : Nat} {α : Type} {xs : α → List Value} {eq : α → α → Bool} (ht : aR P kt = some ti) (hag : b6 ti.desc = true) (hf : v4 P d kt = some L) (hd : d ≤ 10000) (ok : ∀ a,fC L (xs a) = true) (heq : ∀ a b,fS (xs a) (xs b) = eq a b) :
  aCn P kt (fun a => .agg (xs a).toArray) eq := by
 refine ⟨fun a b => by rw [← heq]; exact aEi ht hag hf hd (ok a) (ok b),fun e a => ?_,fun a b h => ?_⟩
 ·have := ((zD d ht hf).2 (10000 - d) (ok a)).2 e
  simp only [mkT,hag,if_true] at this
  rw [Nat.sub_add_cancel hd] at this
  exact this
 ·have h1 := aKW 9999 (ok a) (ok b) (by rw [heq]; exact h)
  have hl : (xs b).length = (xs a).length := by rw [kV (ok a),kV (ok b)]
  show Instr.sameBits (9999 + 1) _ _ = true
  simp only [Instr.sameBits,List.size_toArray,hl,beq_self_eq_true,Bool.true_and]
  exact h1
def zO {α β : Type} (eq : α → α → Bool) (l : List (α × β)) (k : α) : Option Nat := l.findIdx? fun e => eq k e.1
def aB8 {α β : Type} (eq : α → α → Bool) (l : List (α × β)) (k : α) (z : β) : β := match zO eq l k with
 | some i => ((l[i]?).map (·.2)).getD z
 | none => z
def aEm {α β : Type} (eq : α → α → Bool) (l : List (α × β)) (k : α) (v : β) : List (α × β) := match zO eq l k with
 | some i => l.set i (k,v)
 | none => l ++ [(k,v)]
section
variable {P : Program} {kt : TypeId} {α β : Type} {VK : α → Value} {eq : α → α → Bool} {CK : α → List V} {E : β → V} {C : α × β → List V} {K : Nat} {l : List (α × β)} {k : α} {v : β}
theorem aJ3 (hC : ∀ e,C e = CK e.1 ++ [E e.2]) (hl : ∀ a,(CK a).length = K) (h0 : 0 < K) : ∀ l : List (α × β),aCe K 0 l.length (l.flatMap C) = l.map fun e => (V.agg (CK e.1),E e.2)
 | [] => rfl
 | e :: l => by
  have w1 : dA K = K := by unfold dA; rw [if_neg (by omega)]
  have w0 : dA 0 = 1 := rfl
  have e1 : (e :: l).flatMap C = CK e.1 ++ (E e.2 :: l.flatMap C) := by rw [List.flatMap_cons,hC]; simp
  simp only [List.length_cons,aCe,e1,w1,w0]
  have d1 : (CK e.1 ++ E e.2 :: l.flatMap C).drop K = E e.2 :: l.flatMap C := List.drop_left' (hl _)
  have d2 : (CK e.1 ++ E e.2 :: l.flatMap C).drop (K + 1) = l.flatMap C := by rw [← List.drop_drop,d1]; rfl
  rw [List.take_left' (hl _),d1,d2,aJ3 hC hl h0 l,List.map_cons]
  have hK : K ≠ 0 := by omega
  simp [aFx,hK]
theorem aL2 (hC : ∀ e,C e = CK e.1 ++ [E e.2]) (hE : ∀ b,(E b).one = true) (l : List (α × β)) : aBv (l.map fun e => (V.agg (CK e.1),E e.2)) = l.flatMap C := by
 have hc : ∀ b,(E b).cells = [E b] := fun b => by have := hE b; generalize E b = y at this ⊢; cases y <;> first | rfl | simp [V.one] at this
 have ha : ∀ cs : List V,(V.agg cs).cells = cs := fun _ => rfl
 simp only [aBv,List.flatMap_map,ha,hc]
 exact congrArg (fun f => List.flatMap f l) (funext fun e => (hC e).symm)
theorem aHU (hC : ∀ e,C e = CK e.1 ++ [E e.2]) (hl : ∀ a,(CK a).length = K) : ∀ l : List (α × β),(l.flatMap C).length = l.length * (K + 1)
 | [] => by simp
 | e :: l => by rw [List.flatMap_cons,List.length_append,aHU hC hl l,hC]; simp [hl,Nat.add_mul]; omega
theorem aHW (hv : ∀ a,dW (.agg (CK a)) = some (VK a)) : ∀ l : List (α × β),(l.map fun e => (V.agg (CK e.1),E e.2)).mapM (fun e => dW e.1) = some (l.map fun e => VK e.1)
 | [] => rfl
 | e :: l => by simp only [List.map_cons,List.mapM_cons,hv,aHW hv l]; rfl
theorem aHQ (hk : aCn P kt VK eq) (k : α) : ∀ l : List (α × β),oQ P kt (VK k) (l.map fun e => VK e.1) = some (zO eq l k)
 | [] => rfl
 | e :: l => by
  simp only [List.map_cons,oQ,hk.equal,zO,List.findIdx?_cons]
  cases eq k e.1 with
  | true => rfl
  | false =>
   have := aHQ hk k l
   simp only [zO] at this
   simp [this]
variable {t : TypeId} {m : MT} {h h' : Hp} {b : Nat}
theorem aGx (hC : ∀ e,C e = CK e.1 ++ [E e.2]) (hl : ∀ a,(CK a).length = K) (h0 : 0 < K) (hm : tY P t = some m) (hK : lU m.dk = K) (hL : lU m.de = 0) (hb : h[b]? = some (some ⟨m.code,l.flatMap C⟩)) :
  z5 P t h (.mp b) = some ⟨m,b,⟨m.code,l.flatMap C⟩,l.map fun e => (V.agg (CK e.1),E e.2)⟩ := by
 have w1 : dA K = K := by unfold dA; rw [if_neg (by omega)]
 have w0 : dA 0 = 1 := rfl
 simp only [z5,hm,hb,if_true,hK,hL,w1,w0,aHU hC hl]
 rw [Nat.mul_div_cancel _ (by omega),aJ3 hC hl h0]
theorem aEQ (hv : ∀ a,dW (.agg (CK a)) = some (VK a)) (hk : aCn P kt VK eq) : aBy P kt (l.map fun e => (V.agg (CK e.1),E e.2)) (.agg (CK k)) = some (VK k,l.map (fun e => VK e.1),zO eq l k) := by
 simp only [aBy,hv,aHW hv,hk.check,aHQ hk]
theorem lkM {z : β} (hC : ∀ e,C e = CK e.1 ++ [E e.2]) (hl : ∀ a,(CK a).length = K) (h0 : 0 < K) (hv : ∀ a,dW (.agg (CK a)) = some (VK a)) (hm : tY P t = some m) (hk : aCn P m.kt VK eq) (hK : lU m.dk = K) (hL : lU m.de = 0) (hz : ofValue m.de.zero = E z) (hb : h[b]? = some (some ⟨m.code,l.flatMap C⟩)) :
  rU P t h (.mp b) (.agg (CK k)) false = some (E (aB8 eq l k z)) := by
 simp only [rU,aGx hC hl h0 hm hK hL hb,aEQ hv hk,aB8]
 cases hf : zO eq l k with
 | none => simp [hz]
 | some i =>
  have hi : i < l.length := (List.findIdx?_eq_some_iff_getElem.1 hf).1
  simp [hi]
theorem upM (hC : ∀ e,C e = CK e.1 ++ [E e.2]) (hl : ∀ a,(CK a).length = K) (h0 : 0 < K) (h1 : ∀ a,(CK a).all V.one = true) (hE : ∀ b,(E b).one = true) (hv : ∀ a,dW (.agg (CK a)) = some (VK a)) (hm : tY P t = some m) (hk : aCn P m.kt VK eq) (hK : lU m.dk = K) (hL : lU m.de = 0) (hb : h[b]? = some (some ⟨m.code,l.flatMap C⟩)) (hh : h.set b (some ⟨m.code,(aEm eq l k v).flatMap C⟩) = h') :
  aFM P t h (.mp b) (.agg (CK k)) (E v) = some h' := by
 subst hh
 have hKn : K ≠ 0 := by omega
 have s1 : aDL K (.agg (CK k)) = true := by simp [aDL,V.flatOk,V.cells,h1,hKn,hl]
 have hc : ∀ b,(E b).cells = [E b] := fun b => by have := hE b; generalize E b = y at this ⊢; cases y <;> first | rfl | simp [V.one] at this
 have s2 : aDL 0 (E v) = true := by simp [aDL,V.flatOk,hc,hE]
 simp only [aFM,aGx hC hl h0 hm hK hL hb,hK,hL,s1,s2,Bool.and_self,if_true,aEQ hv hk,aEm]
 cases hf : zO eq l k with
 | none =>
  have ha : ∀ cs : List V,(V.agg cs).cells = cs := fun _ => rfl
  simp only [List.flatMap_append,List.flatMap_cons,List.flatMap_nil,hC,ha,hc,List.append_nil]
 | some i =>
  obtain ⟨hi,hp,_⟩ := List.findIdx?_eq_some_iff_getElem.1 hf
  have hst : aGR (l.map fun e => VK e.1) i (VK k) = true := by
   simp only [aGR,List.getElem?_map,List.getElem?_eq_getElem hi,Option.map_some,Option.any_some]
   exact hk.stays _ _ hp
  simp only [hst,if_true]
  rw [← aL2 hC hE (l.set i (k,v)),List.map_set]
theorem aOv {z : β} {e : Nat} (he : m.code = e) (hC : ∀ e,C e = CK e.1 ++ [E e.2]) (hl : ∀ a,(CK a).length = K) (h0 : 0 < K) (hv : ∀ a,dW (.agg (CK a)) = some (VK a)) (hm : tY P t = some m) (hk : aCn P m.kt VK eq) (hK : lU m.dk = K) (hL : lU m.de = 0) (hz : ofValue m.de.zero = E z) (hb : h[b]? = some (some ⟨e,l.flatMap C⟩)) :
  rU P t h (.mp b) (.agg (CK k)) false = some (E (aB8 eq l k z)) := by
 subst he; exact lkM hC hl h0 hv hm hk hK hL hz hb
theorem aS9 {e : Nat} (he : m.code = e) (hC : ∀ e,C e = CK e.1 ++ [E e.2]) (hl : ∀ a,(CK a).length = K) (h0 : 0 < K) (h1 : ∀ a,(CK a).all V.one = true) (hE : ∀ b,(E b).one = true) (hv : ∀ a,dW (.agg (CK a)) = some (VK a)) (hm : tY P t = some m) (hk : aCn P m.kt VK eq) (hK : lU m.dk = K) (hL : lU m.de = 0) (hb : h[b]? = some (some ⟨e,l.flatMap C⟩)) (hh : h.set b (some ⟨e,(aEm eq l k v).flatMap C⟩) = h') :
  aFM P t h (.mp b) (.agg (CK k)) (E v) = some h' := by
 subst he; exact upM hC hl h0 h1 hE hv hm hk hK hL hb hh
def aTj (cs : List V) : List Value := (cs.mapM dD).getD []
end
section
variable {P : Program} {O : uR} {n : Nat} {fr : List (Nat × V)} {h h' : Hp} {ty : TypeId} {pos : String} {aft : Array Edge} {v : V} {d : Option Tmp} {g : Option (Nat × Bool)} {x y z : Operand} {a b c : V} {t : TypeId}
theorem aP0 {m : MT} {i : Nat} {e : Nat} (hm : tY P t = some m) (he : m.code = e) (hl : h.length = i) (hh : h ++ [some ⟨e,[]⟩] = h') : bK P O ⟨d,.makeMap t none,ty,pos,aft,g⟩ (aK n fr) h = some (.mp i,h') := by
 subst hl hh he
 simp [bK,aDr,hm]
theorem aN3 {ok : Bool} (hx : bP n fr x = some a) (hy : bP n fr y = some b) (hv : rU P t h a b ok = some v) : bK P O ⟨d,.lookup t x y ok,ty,pos,aft,g⟩ (aK n fr) h = some (v,h) := by simp [bK,cS hx,cS hy,hv]
theorem aR2 (hx : bP n fr x = some a) (hy : bP n fr y = some b) (hz : bP n fr z = some c) (hv : aFM P t h a b c = some h') : bK P O ⟨d,.mapUpdate t x y z,ty,pos,aft,g⟩ (aK n fr) h = some (.sc undef,h') := by simp [bK,cS hx,cS hy,cS hz,hv]
end
theorem zX {E : Int → V} {n : Nat} {l : List Int} (h : l.length = n) : (List.range n).map (fun i => E (l.getD i 0)) = l.map E := by
 apply List.ext_getElem?
 intro i
 simp only [List.getElem?_map,List.getElem?_range']
 by_cases hi : i < n
 ·rw [List.getElem?_range hi,List.getElem?_eq_getElem (by omega)]
  simp [List.getD_eq_getElem?_getD,List.getElem?_eq_getElem (show i < l.length by omega)]
 ·rw [List.getElem?_eq_none (by simpa using hi),List.getElem?_eq_none (by omega)]; rfl
theorem aMr {n : Nat} {a b : List Int} (ha : a.length = n) (hb : b.length = n) : (List.range n).all (fun i => a.getD i 0 == b.getD i 0) = (a == b) := by
 rw [Bool.eq_iff_iff]
 simp only [List.all_eq_true,List.mem_range,beq_iff_eq]
 constructor
 ·intro h
  apply List.ext_getElem (by omega)
  intro i h1 h2
  have := h i (by omega)
  simpa [List.getD_eq_getElem?_getD,List.getElem?_eq_getElem h1,List.getElem?_eq_getElem h2] using this
 ·rintro rfl i _; rfl
theorem aLC {P : Program} {t : TypeId} {ps ps' : List (Nat × V)} {v : V} (h : ps = ps') (hb : vC P t ps' = some v) : vC P t ps = some v := by rw [h]; exact hb
def eQ (E : Int → V) (l : List Int) (r : List V) : List V := E (l.getD 0 0) :: E (l.getD 1 0) :: E (l.getD 2 0) :: E (l.getD 3 0) :: r
theorem aO3 {E : Int → V} {l : List Int} (h : l.length = 4) (r : List V) : eQ E l r = l.map E ++ r := by
 rw [← zX h]; rfl
theorem aCP {E : Int → V} {l : List Int} (h : l.length = 4) : eQ E l [] = l.map E := by rw [aO3 h]; simp
theorem rK {f : Nat → Nat} {k : IntKind} {l : List Int} {r : List V} : V.rns f (eQ (eI k) l r) = eQ (eI k) l (V.rns f r) := rfl
def ar8 (E : Int → V) (l : List Int) (r : List V) : List V := E (l.getD 0 0) :: E (l.getD 1 0) :: E (l.getD 2 0) :: E (l.getD 3 0) :: E (l.getD 4 0) :: E (l.getD 5 0) :: E (l.getD 6 0) :: E (l.getD 7 0) :: r
theorem aPJ {E : Int → V} {l : List Int} (h : l.length = 8) (r : List V) : ar8 E l r = l.map E ++ r := by
 rw [← zX h]; rfl
theorem aPz {E : Int → V} {l : List Int} (h : l.length = 8) : ar8 E l [] = l.map E := by rw [aPJ h]; simp
theorem rF {f : Nat → Nat} {k : IntKind} {l : List Int} {r : List V} : V.rns f (ar8 (eI k) l r) = ar8 (eI k) l (V.rns f r) := rfl
def aFW (E : Int → V) (l : List Int) (r : List V) : List V := E (l.getD 0 0) :: E (l.getD 1 0) :: E (l.getD 2 0) :: E (l.getD 3 0) :: E (l.getD 4 0) :: E (l.getD 5 0) :: E (l.getD 6 0) :: E (l.getD 7 0) :: E (l.getD 8 0) :: E (l.getD 9 0) :: E (l.getD 10 0) :: E (l.getD 11 0) :: E (l.getD 12 0) :: E (l.getD 13 0) :: E (l.getD 14 0) :: E (l.getD 15 0) :: E (l.getD 16 0) :: E (l.getD 17 0) :: E (l.getD 18 0) :: E (l.getD 19 0) :: r
theorem aOA {E : Int → V} {l : List Int} (h : l.length = 20) (r : List V) : aFW E l r = l.map E ++ r := by
 rw [← zX h]; rfl
theorem aNS {E : Int → V} {l : List Int} (h : l.length = 20) : aFW E l [] = l.map E := by rw [aOA h]; simp
theorem oE {f : Nat → Nat} {k : IntKind} {l : List Int} {r : List V} : V.rns f (aFW (eI k) l r) = aFW (eI k) l (V.rns f r) := rfl
def bG (E : Int → V) (l : List Int) (r : List V) : List V := E (l.getD 0 0) :: E (l.getD 1 0) :: E (l.getD 2 0) :: E (l.getD 3 0) :: E (l.getD 4 0) :: E (l.getD 5 0) :: E (l.getD 6 0) :: E (l.getD 7 0) :: E (l.getD 8 0) :: E (l.getD 9 0) :: E (l.getD 10 0) :: E (l.getD 11 0) :: E (l.getD 12 0) :: E (l.getD 13 0) :: E (l.getD 14 0) :: E (l.getD 15 0) :: E (l.getD 16 0) :: E (l.getD 17 0) :: E (l.getD 18 0) :: E (l.getD 19 0) :: E (l.getD 20 0) :: E (l.getD 21 0) :: E (l.getD 22 0) :: E (l.getD 23 0) :: E (l.getD 24 0) :: E (l.getD 25 0) :: E (l.getD 26 0) :: E (l.getD 27 0) :: E (l.getD 28 0) :: E (l.getD 29 0) :: E (l.getD 30 0) :: E (l.getD 31 0) :: r
theorem aI8 {E : Int → V} {l : List Int} (h : l.length = 32) (r : List V) : bG E l r = l.map E ++ r := by
 rw [← zX h]; rfl
theorem sK {E : Int → V} {l : List Int} (h : l.length = 32) : bG E l [] = l.map E := by rw [aI8 h]; simp
theorem oC {f : Nat → Nat} {k : IntKind} {l : List Int} {r : List V} : V.rns f (bG (eI k) l r) = bG (eI k) l (V.rns f r) := rfl
theorem aNA {vn : Nat → Bool} {E : Int → V} {l : List Int} {r r' : List V} (hr : V.les vn r r') : V.les vn (bG E l r) (bG E l r') := by
 unfold bG
 repeat (first | exact hr | refine V.les_cons (V.le_refl _ _) ?_)
theorem aOe {h h' : Hp} {E : Int → V} {l : List Int} {r r' : List V} (hE : ∀ x,Conv h h' (E x) (E x)) (hr : Convs h h' r r') : Convs h h' (bG E l r) (bG E l r') := by
 unfold bG
 repeat (first | exact hr | refine Convs.cons (hE _) ?_)
def o8 (a b : List Int) (r : Bool) : Bool := ((a.getD 0 0 == b.getD 0 0) && ((a.getD 1 0 == b.getD 1 0) && ((a.getD 2 0 == b.getD 2 0) && ((a.getD 3 0 == b.getD 3 0) && ((a.getD 4 0 == b.getD 4 0) && ((a.getD 5 0 == b.getD 5 0) && ((a.getD 6 0 == b.getD 6 0) && ((a.getD 7 0 == b.getD 7 0) && ((a.getD 8 0 == b.getD 8 0) && ((a.getD 9 0 == b.getD 9 0) && ((a.getD 10 0 == b.getD 10 0) && ((a.getD 11 0 == b.getD 11 0) && ((a.getD 12 0 == b.getD 12 0) && ((a.getD 13 0 == b.getD 13 0) && ((a.getD 14 0 == b.getD 14 0) && ((a.getD 15 0 == b.getD 15 0) && ((a.getD 16 0 == b.getD 16 0) && ((a.getD 17 0 == b.getD 17 0) && ((a.getD 18 0 == b.getD 18 0) && ((a.getD 19 0 == b.getD 19 0) && ((a.getD 20 0 == b.getD 20 0) && ((a.getD 21 0 == b.getD 21 0) && ((a.getD 22 0 == b.getD 22 0) && ((a.getD 23 0 == b.getD 23 0) && ((a.getD 24 0 == b.getD 24 0) && ((a.getD 25 0 == b.getD 25 0) && ((a.getD 26 0 == b.getD 26 0) && ((a.getD 27 0 == b.getD 27 0) && ((a.getD 28 0 == b.getD 28 0) && ((a.getD 29 0 == b.getD 29 0) && ((a.getD 30 0 == b.getD 30 0) && ((a.getD 31 0 == b.getD 31 0) && r))))))))))))))))))))))))))))))))
theorem xK {a b : List Int} (ha : a.length = 32) (hb : b.length = 32) (r : Bool) : o8 a b r = ((a == b) && r) := by
 have e : o8 a b r = ((List.range 32).all (fun i => a.getD i 0 == b.getD i 0) && r) := by
  simp only [o8,show List.range 32 = [0,1,2,3,4,5,6,7,8,9,10,11,12,13,14,15,16,17,18,19,20,21,22,23,24,25,26,27,28,29,30,31] from rfl,List.all_cons,List.all_nil,Bool.and_assoc,Bool.true_and,Bool.and_true]
 rw [e,aMr ha hb]
def aFy (E : Int → V) (l : List Int) (r : List V) : List V := E (l.getD 0 0) :: E (l.getD 1 0) :: E (l.getD 2 0) :: E (l.getD 3 0) :: E (l.getD 4 0) :: E (l.getD 5 0) :: E (l.getD 6 0) :: E (l.getD 7 0) :: E (l.getD 8 0) :: E (l.getD 9 0) :: E (l.getD 10 0) :: E (l.getD 11 0) :: E (l.getD 12 0) :: E (l.getD 13 0) :: E (l.getD 14 0) :: E (l.getD 15 0) :: E (l.getD 16 0) :: E (l.getD 17 0) :: E (l.getD 18 0) :: E (l.getD 19 0) :: E (l.getD 20 0) :: E (l.getD 21 0) :: E (l.getD 22 0) :: E (l.getD 23 0) :: E (l.getD 24 0) :: E (l.getD 25 0) :: E (l.getD 26 0) :: E (l.getD 27 0) :: E (l.getD 28 0) :: E (l.getD 29 0) :: E (l.getD 30 0) :: E (l.getD 31 0) :: E (l.getD 32 0) :: E (l.getD 33 0) :: E (l.getD 34 0) :: E (l.getD 35 0) :: E (l.getD 36 0) :: E (l.getD 37 0) :: E (l.getD 38 0) :: E (l.getD 39 0) :: E (l.getD 40 0) :: E (l.getD 41 0) :: E (l.getD 42 0) :: E (l.getD 43 0) :: E (l.getD 44 0) :: E (l.getD 45 0) :: E (l.getD 46 0) :: E (l.getD 47 0) :: E (l.getD 48 0) :: E (l.getD 49 0) :: E (l.getD 50 0) :: E (l.getD 51 0) :: E (l.getD 52 0) :: E (l.getD 53 0) :: E (l.getD 54 0) :: E (l.getD 55 0) :: E (l.getD 56 0) :: E (l.getD 57 0) :: E (l.getD 58 0) :: E (l.getD 59 0) :: E (l.getD 60 0) :: E (l.getD 61 0) :: E (l.getD 62 0) :: E (l.getD 63 0) :: r
theorem aNY {E : Int → V} {l : List Int} (h : l.length = 64) (r : List V) : aFy E l r = l.map E ++ r := by
 rw [← zX h]; rfl
theorem aNG {E : Int → V} {l : List Int} (h : l.length = 64) : aFy E l [] = l.map E := by rw [aNY h]; simp
theorem oJ {f : Nat → Nat} {k : IntKind} {l : List Int} {r : List V} : V.rns f (aFy (eI k) l r) = aFy (eI k) l (V.rns f r) := rfl
theorem aMh {P : Program} (k : IntKind) (n : Int) : unV P .neg (.sc (.int k n)) = some (.sc (.int k (k.wrap (0 - n)))) := rfl
theorem aLb {P : Program} {k : IntKind} (hk : k.signed = false) (n : Int) : unV P .xor (.sc (.int k n)) = some (.sc (.int k (bits .xor k k.max n))) := by
 cases k <;> first | rfl | cases hk
def mkl {α : Type} (by_ : Nat) (z : α) (n c : Int) : Option (List α) := if 0 < n ∧ n ≤ c ∧ c.toNat * by_ ≤ mZ then some (List.replicate n.toNat z) else none
theorem mkL {k1 k2 : IntKind} {P : Program} {h h' : Hp} {t e : TypeId} {ti : TI} {i : Nat} {α : Type} {E : α → V} {sz by_ : Nat} {z : Value} {ag : Bool} {j c : Int} {y : α} (ht : aR P t = some ⟨.slice e,sz,by_,z⟩) (he : aR P e = some ti) (h1 : 1 ≤ ti.bytes ∧ ti.size = 1 ∧ ti.zero.cells.size = 1) (hz : ti.zero.cells.toList.map dZ = [E y]) (ho : (E y).one = true) (hag : b6 ti.desc = ag) {r : List α}
  (hm : mkl ti.bytes y j c = some r) (hl : h.length = i) (hh : h ++ [some ⟨e,r.map E⟩] = h') : zM P t (.sc (.int k1 j)) (.sc (.int k2 c)) h = some (.sl i 0 r.length 1 ag,h') := by
 obtain ⟨h2,h3,h4⟩ := h1
 unfold mkl at hm
 split at hm
 ·rename_i hlim
  injection hm with hm
  subst hm hl hh hag
  simp only [zM,ht,he]
  rw [if_pos ⟨by omega,hlim.2.1,hlim.2.2,h2,by omega,by rw [h4,h3],by rw [hz]; simp [ho]⟩,hz,if_neg (by omega)]
  simp only [h3]
  have : ∀ n,(List.replicate n [E y]).flatten = (List.replicate n y).map E := fun n => by
   induction n with
   | zero => rfl
   | succ n ih => simp only [List.replicate_succ,List.flatten_cons,ih,List.map_cons]; rfl
  rw [this]; simp
 ·cases hm
theorem zl {a b : Nat} (h : Nat.ble a b = true := by rfl) : a ≤ b := Nat.le_of_ble_eq_true h
theorem zR {p : Prop} (h : p := by first | rfl | (simp only [V.rn,V.rns,iT,iS] <;> rfl)) : p := h
theorem zF {p : Prop} (h : p := by first | rfl | simp [V.rf,V.rfs,aGz,aGf]) : p := h
theorem zG {N n : Nat} {fr fr' : List (Nat × V)} {h h' : Hp} (σ : List Nat)
  (hf : FLe noN (V.rn (sg σ h.length)) fr fr' := by repeat (first | exact FLe.nil | refine FLe.same rfl ?_ | refine FLe.le rfl V.le_nil ?_ | refine FLe.le rfl V.le_row ?_ | refine FLe.le rfl (V.le_arr (fun _ => rfl)) ?_))
  (hh : HLe (sg σ h.length) h σ h' := by repeat (first | exact HLe.nil | refine HLe.dead ?_ | refine HLe.live rfl V.les_nil rfl ?_ | refine HLe.live rfl (aC6 (fun _ => rfl) _) (all_map (fun _ => rfl) _) ?_ | refine HLe.live rfl (aBZ (fun _ => rfl) _) (o5 (fun _ => rfl) _) ?_ | refine HLe.live rfl (V.les_refl _ _) rfl ?_))
  (hσ : σ.take N = List.range N := by rfl) (hlt : σ.all (fun b => Nat.blt b h.length) = true := by rfl) (hnd : ndB (lvs σ h') = true := by rfl) : Ghost N (aK n fr) h (aK n fr') h' := Ghost.rn σ hσ hlt hf hh hnd
def tM {α : Type} (l : List α) (a c : Int) : Option (List α) := if 0 ≤ a ∧ a < c ∧ c ≤ l.length then some ((l.take c.toNat).drop a.toNat) else none
theorem aA0 {α : Type} {l x : List α} {a c : Int} (h : tM l a c = some x) : 0 ≤ a ∧ a < c ∧ c ≤ l.length ∧ x = (l.take c.toNat).drop a.toNat ∧ x.length = c.toNat - a.toNat := by
 unfold tM at h
 split at h
 ·rename_i hc
  injection h with h
  refine ⟨hc.1,hc.2.1,hc.2.2,h.symm, ?_⟩
  rw [← h,List.length_drop,List.length_take]; omega
 ·cases h
theorem aNx {α : Type} {l x : List α} {a c j : Int} {y : α} (h : tM l a c = some x) (hx : b5 x j = some y) : l[a.toNat + j.toNat]? = some y := by
 obtain ⟨_,_,_,e,_⟩ := aA0 h
 obtain ⟨_,_,h3⟩ := jL hx
 rw [e,List.getElem?_drop,List.getElem?_take] at h3
 split at h3
 ·exact h3
 ·cases h3
section
variable {P : Program} {h h' : Hp} {t e : TypeId} {ti : TI} {α : Type} {E : α → V} {l x m : List α} {sz by_ b : Nat} {z : Value} {ag : Bool} {lo hi : Option V} {a c j : Int} {y : α} {k : IntKind} {N n : Nat} {i q K : Nat}
theorem aQP (hq : l.length = q) (ht : aR P t = some ⟨.slice e,sz,by_,z⟩) (he : aR P e = some ti) (hK : ti.size = K) (h1 : pC lo = some a) (h2 : vA hi q = some c) (hs : tM l a c = some x) : jX P t h (.sl b 0 q K ag) lo hi = some (.sl b (a.toNat * K) x.length K ag) := by
 subst hK hq
 obtain ⟨s1,s2,s3,s4,s5⟩ := aA0 hs
 simp only [jX,ht,he,h1,h2]
 rw [if_pos ⟨trivial,s1,by omega,s3⟩,s5]
 by_cases h0 : a = 0
 ·subst h0; simp
 ·rw [if_neg h0,if_pos s2,Nat.zero_add]
theorem aLk (hq : l.length = q) (ht : aR P t = some ⟨.slice e,sz,by_,z⟩) (he : aR P e = some ti) (hK : ti.size = K) (h1 : pC lo = some 0) (h2 : vA hi q = some c) (hs : sub l 0 c = some x) : jX P t h (.sl b 0 q K ag) lo hi = some (.sl b 0 x.length K ag) := by
 subst hK hq
 unfold sub at hs
 split at hs
 ·rename_i hc
  injection hs with hs
  have hl : x.length = c.toNat := by rw [← hs]; simp; omega
  simp only [jX,ht,he,h1,h2]
  rw [if_pos ⟨trivial,by omega,hc.2.1,hc.2.2⟩,if_pos trivial,hl]
 ·cases hs
theorem aKi (ht : aR P t = some ⟨.array N e,sz,by_,z⟩) (he : aR P e = some ti) (hsz : ti.size = 1) (hag : b6 ti.desc = ag) (hb : h[b]? = some (some ⟨i,l.map E⟩)) (hl : l.length = N) (hN : N ≤ mZ) (h1 : pC lo = some a) (h2 : vA hi N = some c) (hs : tM l a c = some x) : jX P t h (.ptr b 0) lo hi = some (.sl b (a.toNat * 1) x.length 1 ag) := by
 subst hag
 obtain ⟨s1,s2,s3,s4,s5⟩ := aA0 hs
 simp only [jX,ht,he,h1,h2,hb]
 rw [if_pos ⟨by omega,hN,s1,s2,by omega,by simp [hsz,hl]⟩,hsz,s5,Nat.zero_add]
theorem iaY (hq : x.length = q) (ht : aR P t = some ⟨.slice e,sz,by_,z⟩) (he : aR P e = some ti) (hK : ti.size = 1) (hx : b5 x j = some y) : iA P t (.sl b (a.toNat * 1) q 1 ag) (.sc (.int k j)) = some (.ptr b (a.toNat + j.toNat)) := by
 obtain ⟨h2,h3,_⟩ := jL hx
 subst hq
 simp [iA,ht,q7,he,hK,h2,h3]
theorem ldY (ht : aR P t = some ti) (hd : b6 ti.desc = false) (hb : h[b]? = some (some ⟨i,l.map E⟩)) (hs : tM l a c = some x) (hx : b5 x j = some y) : eX P t h (.ptr b (a.toNat + j.toNat)) = some (E y) := by
 have h3 := aNx hs hx
 simp [eX,hb,gY,ht,hd,h3]
theorem apS (ht : aR P t = some ⟨.array N e,sz,by_,z⟩) (hN : 0 < N) (hq : x.length = q) (hx : q6 N x = some m) : aBt P t (.sl b n q 1 ag) = some (.ptr b n) := by
 unfold q6 at hx
 split at hx
 ·rename_i hl
  simp only [aBt,ht]
  rw [if_pos ⟨hN,by omega⟩]
 ·cases hx
theorem aLg (ht : aR P t = some ⟨.array N e,sz,by_,z⟩) (hsz : sz = N) (hb : h[b]? = some (some ⟨i,l.map E⟩)) (hs : tM l a c = some x) (hx : q6 N x = some m) : eX P t h (.ptr b (a.toNat * 1)) = some (.agg (m.map E)) := by
 subst hsz
 obtain ⟨s1,s2,s3,s4,s5⟩ := aA0 hs
 unfold q6 at hx
 split at hx
 ·rename_i hl
  injection hx with hx
  simp only [eX,hb,gY,ht,b6,if_true,Nat.mul_one]
  have hlen : sz ≤ ((l.map E).drop a.toNat).length := by simp; omega
  rw [if_pos hlen]
  congr 2
  rw [← hx,s4,List.map_take,List.map_drop,List.map_take,List.drop_take,List.take_take,Nat.min_eq_left (by omega)]
 ·cases hx
theorem aRG (hb : h[b]? = some (some ⟨i,l.map E⟩)) (hE : ∀ x,(E x).one = true) (hs : tM l a c = some x) : iE h 1 (.sl b (a.toNat * 1) x.length 1 ag) = some (x.map E,x.length) := by
 obtain ⟨s1,s2,s3,s4,s5⟩ := aA0 hs
 simp only [iE,hb,Nat.mul_one]
 rw [if_pos (by simp; omega)]
 simp only [Option.some.injEq,Prod.mk.injEq,and_true]
 rw [s5,s4,List.map_drop,List.map_take,List.drop_take]
end
theorem Ghost.cut {N n : Nat} {fr : List (Nat × V)} {h : Hp} {b e t q K k : Nat} {ag : Bool} {cs : List V} (hl : bP n fr (.tmp t) = some (.sl b 0 q K ag)) (hb : h[b]? = some (some ⟨e,cs⟩)) : Ghost N (aK n fr) h (aK n fr) (h.set b (some ⟨e,cs.take k⟩)) := by
 intro A M a w hN R
 have hbl : b < h.length := (List.getElem?_eq_some_iff.1 hb).1
 have hget : ∀ {j : Nat} {B : Blk},(h.set b (some ⟨e,cs.take k⟩))[j]? = some (some B) → (j = b ∧ B = ⟨e,cs.take k⟩) ∨ (h[j]? = some (some B) ∧ j ≠ b) := by
  intro j B hj
  by_cases hij : b = j
  ·subst hij
   rw [List.getElem?_set_self hbl] at hj
   exact .inl ⟨rfl,(Option.some.inj (Option.some.inj hj)).symm⟩
  ·rw [List.getElem?_set_ne hij] at hj
   exact .inr ⟨hj,fun hh => hij hh.symm⟩
 have hlive : ∀ g,dN M (h.set b (some ⟨e,cs.take k⟩)) g → dN M h g := by
  rintro g ⟨j,B,hj,hm⟩
  rcases hget hj with ⟨rfl,_⟩ | ⟨h1,_⟩
  ·exact ⟨j,_,hb,hm⟩
  ·exact ⟨j,B,h1,hm⟩
 have hX : ∀ g,Xs A M (h.set b (some ⟨e,cs.take k⟩)) g → Xs A M h g := fun g hx => hx.elim .inl (fun hl => .inr (hlive g hl))
 refine ⟨M,rfl,⟨⟨by rw [R.hr.len,List.length_set],R.hr.alt, ?_, ?_,R.hr.glob.avoid fun g _ hx => hX g hx⟩,⟨R.sr.len,fun t x hx => (R.sr.val t x hx).avoid (fun g _ hx => hX g hx)⟩,R.defers⟩,hlive⟩
 ·intro j B hj
  rcases hget hj with ⟨rfl,rfl⟩ | ⟨h1,hne⟩
  ·obtain ⟨hone,hcase⟩ := R.hr.blk j _ hb
   refine ⟨fun c hc => hone c (List.mem_of_mem_take hc), ?_⟩
   rcases hcase with ⟨hn,hc0⟩ | ⟨g,ds,hg,hA,hw,hle,hcs⟩
   ·simp only at hc0
    subst hc0
    exact .inl ⟨hn,by simp⟩
   ·refine .inr ⟨g,ds,hg,hA, ?_,by simp only [List.length_take] at hle ⊢; omega, ?_⟩
    ·rcases hw with hw | ⟨es,clock,hm,hok,heq⟩
     ·exact .inl hw
     ·exfalso
      have hev := cS hl
      simp only [ev] at hev
      have hv := R.sr.val t (.sl j 0 q K ag) hev
      unfold VR at hv
      rcases hv with ⟨hm0,_⟩ | ⟨g',cap,e',sz,hm',_,_,_,_,hshp,_⟩
      ·rw [hg] at hm0; cases hm0
      ·rw [hg] at hm'
       obtain rfl := Option.some.inj (Option.some.inj hm')
       unfold World.shape? at hshp
       rw [hm] at hshp
       cases hshp
    ·have := hcs.take k
     rw [List.take_take] at this
     simp only [List.length_take]
     exact this.avoid (fun g _ hx => hX g hx)
  ·obtain ⟨hone,hcase⟩ := R.hr.blk j B h1
   refine ⟨hone, ?_⟩
   rcases hcase with hn | ⟨g,ds,hg,hA,hw,hle,hcs⟩
   ·exact .inl hn
   ·exact .inr ⟨g,ds,hg,hA,hw,hle,hcs.avoid (fun g _ hx => hX g hx)⟩
 ·intro i j B C g hi hj mi mj
  have f : ∀ {j : Nat} {B : Blk},(h.set b (some ⟨e,cs.take k⟩))[j]? = some (some B) → ∃ B0,h[j]? = some (some B0) := by
   intro j B hj
   rcases hget hj with ⟨e1,_⟩ | ⟨e1,_⟩
   ·exact ⟨_,by rw [e1]; exact hb⟩
   ·exact ⟨_,e1⟩
  obtain ⟨B1,h1⟩ := f hi
  obtain ⟨C1,k1⟩ := f hj
  exact R.hr.inj i j B1 C1 g h1 k1 mi mj
section
variable {N n b e t q K : Nat} {fr : List (Nat × V)} {h h' : Hp} {ag : Bool} {α : Type} {E : α → V} {C : α → List V} {l x : List α} {c : Int}
theorem Ghost.cutM (hl : bP n fr (.tmp t) = some (.sl b 0 q 1 ag)) (hb : h[b]? = some (some ⟨e,l.map E⟩)) (hs : sub l 0 c = some x) (hh : h.set b (some ⟨e,x.map E⟩) = h') : Ghost N (aK n fr) h (aK n fr) h' := by
 subst hh
 unfold sub at hs
 split at hs
 ·injection hs with hs
  have : x.map E = (l.map E).take c.toNat := by rw [← hs,← List.map_take]; simp
  rw [this]
  exact Ghost.cut hl hb
 ·cases hs
theorem Ghost.cutF (hC : ∀ x,(C x).length = K) (hl : bP n fr (.tmp t) = some (.sl b 0 q K ag)) (hb : h[b]? = some (some ⟨e,l.flatMap C⟩)) (hs : sub l 0 c = some x) (hh : h.set b (some ⟨e,x.flatMap C⟩) = h') : Ghost N (aK n fr) h (aK n fr) h' := by
 subst hh
 unfold sub at hs
 split at hs
 ·injection hs with hs
  have : x.flatMap C = (l.flatMap C).take (c.toNat * K) := by rw [← hs]; simp only [Int.toNat_zero,List.drop_zero]; exact (aHI hC _ _).symm
  rw [this]
  exact Ghost.cut hl hb
 ·cases hs
end
abbrev CA4 (E : Int → V) (x : List Int) : List V := eQ E x []
abbrev aDC (E : Int → V) (x : List Int) : List V := bG E x []
@[simp] theorem rG {f : Nat → Nat} {k : IntKind} (l : List (List Int)) : V.rns f (l.flatMap (CA4 (eI k))) = l.flatMap (CA4 (eI k)) := gL (fun _ => rfl) l
@[simp] theorem n9 {f : Nat → Nat} {k : IntKind} (l : List (List Int)) : V.rns f (l.flatMap (aDC (eI k))) = l.flatMap (aDC (eI k)) := gL (fun _ => rfl) l
theorem aNU {k : IntKind} (l : List Int) : V.softA (.agg (l.map (eI k))) = .agg (l.map (eI k)) := by
 simp only [V.softA,List.map_map]
 rfl
theorem aRQ {P : Program} {t : TypeId} {n : Nat} {ps ps' : List (Nat × V)} {h : Hp} {r : V × Hp} (e : ps = ps') (hb : jA P t n ps' h = some r) : jA P t n ps h = some r := by rw [e]; exact hb
theorem Conv.rowKA {C : List Int → List V} {E : Int → V} {K : Nat} {l : List (List Int)} (hC : ∀ x,(C x).length = K) (h1K : ∀ x,(C x).all V.one = true) (hsh : ∀ x,(C x).all V.shut = true) (hcx : ∀ x ∈ l,C x = x.map E) {h h' : Hp} (hs : Sub h h') {b n : Nat} {e : TypeId} (hb : h[b]? = some (some ⟨e,l.flatMap C⟩)) (hb' : h'[b]? = some none) (hn : n = l.length) : Conv h h' (.sl b 0 n K true) (.row none K (l.map (eA E))) := by
 have := Conv.rowK hC h1K hsh hs hb hb' hn
 rwa [show (l.map fun x => V.agg (C x)) = l.map (eA E) from List.map_congr_left fun x hx => by rw [hcx x hx]] at this
theorem AB.scope {P : Program} {N : Nat} {Q : Ex → List V → Hp → Prop} {s : List V} {h : Hp} {c : Code} (hh : AB P N c Q s h) : AB P N (.scope c) Q s h := by
 intro A M0 M h0 w0 a w hN hM G R
 refine wp_scope_straight (Code.wp_mono (fun e a' w' ⟨x,s1,h1,M1,he,hq,G1,R1⟩ => ?_) (hh A M0 M h0 w0 a w hN hM G R))
 subst he
 cases x with
 | normal => exact ⟨.normal,s1,h1,M1,rfl,hq,G1,R1⟩
 | exit i => exact ⟨.exit i,s1,h1,M1,rfl,hq,G1,R1⟩
 | ret => exact ⟨.ret,s1,h1,M1,rfl,hq,G1,R1⟩
theorem AB.label {P : Program} {N : Nat} {Q : Ex → List V → Hp → Prop} {s : List V} {h : Hp} {l : Nat} (hq : Q .normal s h) : AB P N (.label l) Q s h := by
 intro A M0 M h0 w0 a w hN hM G R
 exact wp_label ⟨.normal,s,h,M,rfl,hq,G,R⟩
def q8 (x y c : Int) : Option (Int × Int) := if c.toNat ≤ 1 then some ((((x.toNat + y.toNat + c.toNat) % 18446744073709551616 : Nat) : Int),(((x.toNat + y.toNat + c.toNat) / 18446744073709551616 : Nat) : Int)) else none
def aDm (x y c : Int) : Option (Int × Int) := if c.toNat ≤ 1 then some ((((x.toNat + 18446744073709551616 - y.toNat - c.toNat) % 18446744073709551616 : Nat) : Int),((if x.toNat < y.toNat + c.toNat then 1 else 0 : Nat) : Int)) else none
def aQG : Array Value → Sem Value := (Extern.MathBitsCarry.rows.get ⟨0,by decide⟩).2
def aRl : Array Value → Sem Value := (Extern.MathBitsCarry.rows.get ⟨1,by decide⟩).2
theorem aN6 {P : Program} {f : FuncId} {fn : Func} (hf : P.funcs[f]? = some fn) (hn : (fn.name == "runtime.NumGoroutine") = false) (hb : fn.body.isNone = true) (h1 : Extern.findNext fn = none) (h2 : Extern.find fn = some aQG) {x y c : Int} {r : Int × Int} (hr : q8 x y c = some r) : Fn P f [] [eI .u64 x,eI .u64 y,eI .u64 c] (.tup [eI .u64 r.1,eI .u64 r.2]) [] := by
 unfold q8 at hr
 split at hr
 ·rename_i hc
  injection hr with hr
  subst hr
  refine aM7 hf hn hb h1 h2 fun X M w vs hv => ?_
  unfold VCells at hv
  obtain ⟨v,rest,rfl,hv,hr⟩ := hv
  unfold VCells at hr
  obtain ⟨u,rest,rfl,hu,hr⟩ := hr
  unfold VCells at hr
  obtain ⟨z,rest,rfl,hz,hr⟩ := hr
  unfold VCells at hr
  subst hr
  unfold VR at hv hu hz
  subst hv hu hz
  have hgt : ¬ c.toNat > 1 := by omega
  refine ⟨.tuple #[.int .u64 (((x.toNat + y.toNat + c.toNat) % 18446744073709551616 : Nat) : Int),.int .u64 (((x.toNat + y.toNat + c.toNat) / 18446744073709551616 : Nat) : Int)], ?_, ?_⟩
  ·match c,hgt with
   | .ofNat 0,_ => rfl
   | .ofNat 1,_ => rfl
   | .ofNat (k + 2),hgt => exact absurd (show (Int.ofNat (k + 2)).toNat > 1 by simp; omega) hgt
   | .negSucc k,_ => rfl
  ·unfold VR
   exact ⟨_,rfl,by unfold VCells; exact ⟨_,_,rfl,by unfold VR; rfl,by unfold VCells; exact ⟨_,_,rfl,by unfold VR; rfl,by unfold VCells; rfl⟩⟩⟩
 ·cases hr
theorem aOj {P : Program} {f : FuncId} {fn : Func} (hf : P.funcs[f]? = some fn) (hn : (fn.name == "runtime.NumGoroutine") = false) (hb : fn.body.isNone = true) (h1 : Extern.findNext fn = none) (h2 : Extern.find fn = some aRl) {x y c : Int} {r : Int × Int} (hr : aDm x y c = some r) : Fn P f [] [eI .u64 x,eI .u64 y,eI .u64 c] (.tup [eI .u64 r.1,eI .u64 r.2]) [] := by
 unfold aDm at hr
 split at hr
 ·rename_i hc
  injection hr with hr
  subst hr
  refine aM7 hf hn hb h1 h2 fun X M w vs hv => ?_
  unfold VCells at hv
  obtain ⟨v,rest,rfl,hv,hr⟩ := hv
  unfold VCells at hr
  obtain ⟨u,rest,rfl,hu,hr⟩ := hr
  unfold VCells at hr
  obtain ⟨z,rest,rfl,hz,hr⟩ := hr
  unfold VCells at hr
  subst hr
  unfold VR at hv hu hz
  subst hv hu hz
  have hgt : ¬ c.toNat > 1 := by omega
  refine ⟨.tuple #[.int .u64 (((x.toNat + 18446744073709551616 - y.toNat - c.toNat) % 18446744073709551616 : Nat) : Int),.int .u64 ((if x.toNat < y.toNat + c.toNat then 1 else 0 : Nat) : Int)], ?_, ?_⟩
  ·match c,hgt with
   | .ofNat 0,_ => rfl
   | .ofNat 1,_ => rfl
   | .ofNat (k + 2),hgt => exact absurd (show (Int.ofNat (k + 2)).toNat > 1 by simp; omega) hgt
   | .negSucc k,_ => rfl
  ·unfold VR
   exact ⟨_,rfl,by unfold VCells; exact ⟨_,_,rfl,by unfold VR; rfl,by unfold VCells; exact ⟨_,_,rfl,by unfold VR; rfl,by unfold VCells; rfl⟩⟩⟩
 ·cases hr
theorem sj {α : Type} {a b : α} (h : some a = some b) : a = b := Option.some.inj h
section
variable {P : Program} {ops : Array Oper} {l : List Oper} {n N : Nat} {fr : List (Nat × V)} {h h' h1 : Hp} {K : List V → Hp → Prop} {op : Op} {ty : TypeId} {pos : String} {aft : Array Edge} {t : Nat} {v c d : V} {x y z : Operand} {Q : Ex → List V → Hp → Prop} {ty' u : TypeId}
variable {j w : Nat} {want b : Bool}
theorem zg (hc : b = want) (hd : bK P O0 ⟨some t,op,ty,pos,aft,some (j,want)⟩ (aK n fr) h = some (v,h')) (q : OpsW P N ops l (aK n ((t,v) :: fr)) h' K) (hj : (ops[j]?).bind (·.dst) = some w := by rfl) (hl : bP n fr (.tmp w) = some (.sc (.bool b)) := by rfl) : OpsW P N ops (⟨some t,op,ty,pos,aft,some (j,want)⟩ :: l) (aK n fr) h K := wS (svG hj hl hc hd) q
theorem zk {co : Operand} {X Y : Code} {α : Type} {A B : Option α} {r : α} (hr : (if b = true then A else B) = some r) (hc : bP n fr co = some (.sc (.bool b))) (g1 : b = true → A = some r → AB P N X Q (aK n fr) h) (g2 : b = false → B = some r → AB P N Y Q (aK n fr) h) : AB P N (.cond co X Y) Q (aK n fr) h := AB.cnd hc (fun e => g1 e (eO hr e)) (fun e => g2 e (eP hr e))
theorem zf {f : FuncId} {fn : Func} {co : Code} {args : List V} {r : V} (hf : P.funcs[f]? = some fn) (hnt : fn.ntmps = n) (hh : AB P N co (aB4 P fn N r h') (aK n fr) h) (hb : fn.body = some co := by rfl) (hn : (fn.name == "runtime.NumGoroutine") = false := by kernel_rfl) (hal : args.length ≤ n := by exact zl) (hN : h.length = N := by rfl) (hfr : num 0 args = fr := by (simp only [num,Nat.reduceAdd,Nat.zero_add] <;> rfl)) : Fn P f h args r h' := aSj hf hb hn hnt hal hN hfr hh
variable {F G : FuncId → Bool} {m : Nat} {listed : Array Bool} {s : List V} {o : Oper} {s1 : List V}
end
section
variable {P : Program} {fn : Func} {n N : Nat} {fr : List (Nat × V)} {h h' : Hp} {r a b c : V} {t u w : Nat}
theorem bL (hr : fn.results = #[.tmp t]) (σ : List Nat) (hx : bP n fr (.tmp t) = some a := by rfl) (hf : FLe noN (V.rn (sg σ h.length)) [(0,a)] [(0,r)] := by repeat (first | exact FLe.nil | refine FLe.same rfl ?_ | refine FLe.le rfl V.le_nil ?_ | refine FLe.le rfl V.le_row ?_ | refine FLe.le rfl (V.le_arr (fun _ => rfl)) ?_)) (hh : HLe (sg σ h.length) h σ h' := by repeat (first | exact HLe.nil | refine HLe.dead ?_ | refine HLe.live rfl V.les_nil rfl ?_ | refine HLe.live rfl (aC6 (fun _ => rfl) _) (all_map (fun _ => rfl) _) ?_ | refine HLe.live rfl (aBZ (fun _ => rfl) _) (o5 (fun _ => rfl) _) ?_ | refine HLe.live rfl (V.les_refl _ _) rfl ?_)) (hσ : σ.take N = List.range N := by rfl) (hlt : σ.all (fun b => Nat.blt b h.length) = true := by rfl) (hnd : ndB (lvs σ h') = true := by rfl) : aB4 P fn N r h' .ret (aK n fr) h := aAt (aRo hr (rvT hx)) (Ghost.rn σ hσ hlt hf hh hnd)
theorem zd2 (hr : fn.results = #[.tmp t,.tmp u]) (σ : List Nat) (hx : bP n fr (.tmp t) = some a := by rfl) (hy : bP n fr (.tmp u) = some b := by rfl) (hf : FLe noN (V.rn (sg σ h.length)) [(0,(.tup [a,b]))] [(0,r)] := by repeat (first | exact FLe.nil | refine FLe.same rfl ?_ | refine FLe.le rfl V.le_nil ?_ | refine FLe.le rfl V.le_row ?_ | refine FLe.le rfl (V.le_arr (fun _ => rfl)) ?_)) (hh : HLe (sg σ h.length) h σ h' := by repeat (first | exact HLe.nil | refine HLe.dead ?_ | refine HLe.live rfl V.les_nil rfl ?_ | refine HLe.live rfl (aC6 (fun _ => rfl) _) (all_map (fun _ => rfl) _) ?_ | refine HLe.live rfl (aBZ (fun _ => rfl) _) (o5 (fun _ => rfl) _) ?_ | refine HLe.live rfl (V.les_refl _ _) rfl ?_)) (hσ : σ.take N = List.range N := by rfl) (hlt : σ.all (fun b => Nat.blt b h.length) = true := by rfl) (hnd : ndB (lvs σ h') = true := by rfl) : aB4 P fn N r h' .ret (aK n fr) h := aAt (bO hr (rvT hx) (rvT hy)) (Ghost.rn σ hσ hlt hf hh hnd)
theorem zd3 (hr : fn.results = #[.tmp t,.tmp u,.tmp w]) (σ : List Nat) (hx : bP n fr (.tmp t) = some a := by rfl) (hy : bP n fr (.tmp u) = some b := by rfl) (hz : bP n fr (.tmp w) = some c := by rfl) (hf : FLe noN (V.rn (sg σ h.length)) [(0,(.tup [a,b,c]))] [(0,r)] := by repeat (first | exact FLe.nil | refine FLe.same rfl ?_ | refine FLe.le rfl V.le_nil ?_ | refine FLe.le rfl V.le_row ?_ | refine FLe.le rfl (V.le_arr (fun _ => rfl)) ?_)) (hh : HLe (sg σ h.length) h σ h' := by repeat (first | exact HLe.nil | refine HLe.dead ?_ | refine HLe.live rfl V.les_nil rfl ?_ | refine HLe.live rfl (aC6 (fun _ => rfl) _) (all_map (fun _ => rfl) _) ?_ | refine HLe.live rfl (aBZ (fun _ => rfl) _) (o5 (fun _ => rfl) _) ?_ | refine HLe.live rfl (V.les_refl _ _) rfl ?_)) (hσ : σ.take N = List.range N := by rfl) (hlt : σ.all (fun b => Nat.blt b h.length) = true := by rfl) (hnd : ndB (lvs σ h') = true := by rfl) : aB4 P fn N r h' .ret (aK n fr) h := aAt (tL hr (rvT hx) (rvT hy) (rvT hz)) (Ghost.rn σ hσ hlt hf hh hnd)
end
def OpsG (P : Program) (F G : FuncId → Bool) (ops : Array Oper) : List Oper → List V → Hp → (List V → Hp → Prop) → Prop
 | [],s,h,K => K s h
 | o :: l,s,h,K => ∃ s1 h1,StepR P F G ops o s h s1 h1 ∧ OpsG P F G ops l s1 h1 K
def OpsX (P : Program) (N : Nat) (m : Option (List Nat × List Nat)) (ops : Array Oper) (l : List Oper) (s : List V) (h : Hp) (K : List V → Hp → Prop) : Prop :=
 match m with
 | none => OpsW P N ops l s h K
 | some (F,G) => OpsG P (d7 F) (d7 G) ops l s h K
def aGT (l : List Oper) : List Nat → List Oper
 | [] => []
 | i :: s => match l[i]? with
  | some o => o :: aGT l s
  | none => []
def aEG (F G : FuncId → Bool) (ops : Array Oper) : List Nat → Array Bool → Bool
 | [],_ => true
 | i :: s,L => aHr F G ops L i && (ops.toList[i]?).isSome && aEG F G ops s (L.setIfInBounds i true)
def aDu : List Nat → Array Bool → Array Bool
 | [],L => L
 | i :: s,L => aDu s (L.setIfInBounds i true)
theorem aCH {P : Program} {N : Nat} {F G : FuncId → Bool} {ops : Array Oper} {K : List V → Hp → Prop} {m : Nat} : ∀ (sc : List Nat) (L : Array Bool) (s : List V) (h : Hp),aEG F G ops sc L = true →
  OpsG P F G ops (aGT ops.toList sc) s h (fun s h => DrawG P N F G ops m (aDu sc L) s h K) → DrawG P N F G ops (m + sc.length) L s h K
 | [],L,s,h,_,hk => hk
 | i :: sc,L,s,h,hb,hk => by
  simp only [aEG,Bool.and_eq_true] at hb
  obtain ⟨⟨h1,h2⟩,h3⟩ := hb
  obtain ⟨o,ho⟩ := Option.isSome_iff_exists.1 h2
  simp only [aGT,ho] at hk
  obtain ⟨s1,g1,e,hk⟩ := hk
  refine DrawG.pick h1 (o := o) (by simpa using ho) e ?_
  exact aCH sc _ s1 g1 h3 hk
def aEo (F G : FuncId → Bool) (ops : Array Oper) : List (List Nat) → Array Bool → Bool
 | [],L => (aCt ops.size L).isEmpty
 | [a],L => aEG F G ops a L && (aCt ops.size (aDu a L)).isEmpty
 | a :: b :: ss,L => aEG F G ops a L && aKc ops (aDu a L) && !b.isEmpty && aEo F G ops (b :: ss) (aDu a L)
def aNK (P : Program) (N : Nat) (F G : List Nat) (ops : Array Oper) : List (List Nat) → List V → Hp → (List V → Hp → Prop) → Prop
 | [],s,h,K => K s h
 | [a],s,h,K => OpsX P N (some (F,G)) ops (aGT ops.toList a) s h K
 | a :: b :: ss,s,h,K => OpsX P N (some (F,G)) ops (aGT ops.toList a) s h (fun s h => ∃ s' h',Ghost N s h s' h' ∧ aNK P N F G ops (b :: ss) s' h' K)
theorem OpsG.mono {P : Program} {F G : FuncId → Bool} {ops : Array Oper} {K K' : List V → Hp → Prop} : ∀ {l : List Oper} {s : List V} {h : Hp},OpsG P F G ops l s h K → (∀ s h,K s h → K' s h) → OpsG P F G ops l s h K'
 | [],_,_,hk,hm => hm _ _ hk
 | _ :: _,_,_,⟨s1,h1,e,hk⟩,hm => ⟨s1,h1,e,hk.mono hm⟩
theorem aEa {P : Program} {N : Nat} {F G : List Nat} {ops : Array Oper} {K : List V → Hp → Prop} : ∀ (ss : List (List Nat)) (L : Array Bool) (s : List V) (h : Hp),aEo (d7 F) (d7 G) ops ss L = true →
  aNK P N F G ops ss s h K → DrawG P N (d7 F) (d7 G) ops (ss.map List.length).sum L s h K
 | [],L,s,h,hb,hk => DrawG.nil (List.isEmpty_iff.1 hb) hk
 | [a],L,s,h,hb,hk => by
  simp only [aEo,Bool.and_eq_true] at hb
  have := aCH (N := N) (m := 0) a L s h hb.1 (OpsG.mono (K' := fun s h => DrawG P N (d7 F) (d7 G) ops 0 (aDu a L) s h K) hk fun s h hk => DrawG.nil (List.isEmpty_iff.1 hb.2) hk)
  simpa using this
 | a :: b :: ss,L,s,h,hb,hk => by
  simp only [aEo,Bool.and_eq_true] at hb
  obtain ⟨⟨⟨h1,h2⟩,h3⟩,h4⟩ := hb
  have := aCH (N := N) (m := ((b :: ss).map List.length).sum) a L s h h1 (OpsG.mono (K' := fun s h => DrawG P N (d7 F) (d7 G) ops ((b :: ss).map List.length).sum (aDu a L) s h K) hk fun s h ⟨s',h',hg,hk⟩ => by
   have hd := aEa (b :: ss) _ s' h' h4 hk
   obtain ⟨x,xs,rfl⟩ : ∃ x xs,b = x :: xs := by
    cases b with
    | nil => cases h3
    | cons x xs => exact ⟨x,xs,rfl⟩
   simp only [List.map_cons,List.length_cons,List.sum_cons,Nat.add_right_comm _ 1] at hd ⊢
   exact DrawG.gh h2 hg hd)
  simpa [Nat.add_comm] using this
theorem AB.rs {P : Program} {N : Nat} {Q : Ex → List V → Hp → Prop} {s : List V} {h : Hp} (hm : P.follows .mixedOrders = true) (F G : List Nat) (ss : List (List Nat)) {id : Nat} {l : List Oper} (hr : aNK P N F G l.toArray ss s h (Q .normal))
  (hb : (aEo (d7 F) (d7 G) l.toArray ss (Array.replicate l.toArray.size false) && (ss.map List.length).sum == l.toArray.size) = true := by decide +kernel) : AB P N (.region id l.toArray true) Q s h := by
 simp only [Bool.and_eq_true,beq_iff_eq] at hb
 refine AB.rd (d7 F) (d7 G) hm ?_
 have := aEa ss _ s h hb.1 hr
 rw [hb.2] at this
 exact this
section
variable {P : Program} {N n t : Nat} {m : Option (List Nat × List Nat)} {ops : Array Oper} {l : List Oper} {fr : List (Nat × V)} {h h' : Hp} {K : List V → Hp → Prop} {op : Op} {ty : TypeId} {pos : String} {aft : Array Edge} {gd : Option (Nat × Bool)} {v a b : V} {x y z : Operand} {Q : Ex → List V → Hp → Prop} {s : List V}
theorem OpsX.nil (hk : K s h) : OpsX P N m ops [] s h K := by
 cases m with
 | none => exact OpsW.nil hk
 | some p => exact hk
theorem xS0 (hs : cI P O0 ops ⟨some t,op,ty,pos,aft,gd⟩ (aK n fr) h = some (v,h')) (k : OpsX P N m ops l (aK n ((t,v) :: fr)) h' K) : OpsX P N m ops (⟨some t,op,ty,pos,aft,gd⟩ :: l) (aK n fr) h K := by
 cases m with
 | none => exact wS hs k
 | some p => exact ⟨_,_,gS hs,k⟩
theorem xN0 (hs : cI P O0 ops ⟨none,op,ty,pos,aft,gd⟩ (aK n fr) h = some (v,h')) (k : OpsX P N m ops l (aK n fr) h' K) : OpsX P N m ops (⟨none,op,ty,pos,aft,gd⟩ :: l) (aK n fr) h K := by
 cases m with
 | none => exact wN hs k
 | some p => exact ⟨_,_,gN hs,k⟩
theorem xq {c : Code} {id : Nat} (hr : OpsX P N none l.toArray l s h (Ex.then (AB P N c Q) Q .normal)) : AB P N (.seq (.region id l.toArray false) c) Q s h := AB.seq (AB.rw hr)
theorem xr {id : Nat} (hr : OpsX P N none l.toArray l s h (Q .normal)) : AB P N (.region id l.toArray false) Q s h := AB.rw hr
def Gd (ops : Array Oper) (n : Nat) (fr : List (Nat × V)) : Option (Nat × Bool) → Prop
 | none => True
 | some (j,w) => ∃ u,(ops[j]?).bind (·.dst) = some u ∧ ∃ c,bP n fr (.tmp u) = some (.sc (.bool c)) ∧ c = w
theorem Gd.step {dd : Option Tmp} {r : V × Hp} (hg : Gd ops n fr gd) (hd : bK P O0 ⟨dd,op,ty,pos,aft,gd⟩ (aK n fr) h = some r) : cI P O0 ops ⟨dd,op,ty,pos,aft,gd⟩ (aK n fr) h = some r := by
 obtain ⟨v,h1⟩ := r
 cases gd with
 | none => exact sv hd
 | some p =>
  obtain ⟨j,w⟩ := p
  obtain ⟨u,hu,c,hc,he⟩ := hg
  exact svG hu hc he hd
theorem xS (hd : bK P O0 ⟨some t,op,ty,pos,aft,gd⟩ (aK n fr) h = some (v,h')) (k : OpsX P N m ops l (aK n ((t,v) :: fr)) h' K) (hg : Gd ops n fr gd := by first | exact True.intro | exact ⟨_,rfl,_,rfl,by assumption⟩) : OpsX P N m ops (⟨some t,op,ty,pos,aft,gd⟩ :: l) (aK n fr) h K := xS0 (hg.step hd) k
theorem xN (hd : bK P O0 ⟨none,op,ty,pos,aft,gd⟩ (aK n fr) h = some (v,h')) (k : OpsX P N m ops l (aK n fr) h' K) (hg : Gd ops n fr gd := by first | exact True.intro | exact ⟨_,rfl,_,rfl,by assumption⟩) : OpsX P N m ops (⟨none,op,ty,pos,aft,gd⟩ :: l) (aK n fr) h K := xN0 (hg.step hd) k
theorem xw (hd : bK P O0 ⟨some t,op,ty,pos,aft,none⟩ (aK n fr) h = some (v,h')) (k : OpsX P N m ops l (aK n ((t,v) :: fr)) h' K) : OpsX P N m ops (⟨some t,op,ty,pos,aft,none⟩ :: l) (aK n fr) h K := xS0 (sv hd) k
theorem xy (hd : bK P O0 ⟨none,op,ty,pos,aft,none⟩ (aK n fr) h = some (v,h')) (k : OpsX P N m ops l (aK n fr) h' K) : OpsX P N m ops (⟨none,op,ty,pos,aft,none⟩ :: l) (aK n fr) h K := xN0 (sv hd) k
theorem xC {f : FuncId} {ts : Array TypeId} {ws : List Operand} {xs : List V} (hx : rV n fr ws = some xs) (hc : Fn P f h xs v h') (k : OpsX P N none ops l (aK n ((t,v) :: fr)) h' K) : OpsX P N none ops (⟨some t,.call ⟨.value (.func f),ws.toArray,ts⟩,ty,pos,aft,none⟩ :: l) (aK n fr) h K := wC hx hc k
theorem xCg {f : FuncId} {ts : Array TypeId} {ws : List Operand} {xs : List V} {jj ww : Nat} {want cc : Bool} (hj : (ops[jj]?).bind (·.dst) = some ww) (hl : bP n fr (.tmp ww) = some (.sc (.bool cc))) (hb : cc = want) (hx : rV n fr ws = some xs) (hc : Fn P f h xs v h') (k : OpsX P N none ops l (aK n ((t,v) :: fr)) h' K) : OpsX P N none ops (⟨some t,.call ⟨.value (.func f),ws.toArray,ts⟩,ty,pos,aft,some (jj,want)⟩ :: l) (aK n fr) h K := wCG hj hl hb hx hc k
theorem xG {f : FuncId} {F G : List Nat} {ts : Array TypeId} {ws : List Operand} {xs : List V} (hx : rV n fr ws = some xs) (hc : Fn P f h xs v h') (k : OpsX P N (some (F,G)) ops l (aK n ((t,v) :: fr)) h' K) (hF : d7 F f = false := by rfl) (hG : d7 G f = true → ∃ news,h' = h ++ news := by first | exact (fun _ => ⟨_,rfl⟩) | exact (fun _ => ⟨[],(List.append_nil _).symm⟩) | exact (fun h => absurd h (by decide))) (hg : Gd ops n fr gd := by first | exact True.intro | exact ⟨_,rfl,_,rfl,by assumption⟩) : OpsX P N (some (F,G)) ops (⟨some t,.call ⟨.value (.func f),ws.toArray,ts⟩,ty,pos,aft,gd⟩ :: l) (aK n fr) h K := by
 refine ⟨_,_,gC hc hF hG ?_,k⟩
 cases gd with
 | none => exact sv (d6 hx fH)
 | some p =>
  obtain ⟨j,w⟩ := p
  obtain ⟨u,hu,c,hb,he⟩ := hg
  exact svG hu hb he (d6 hx fH)
theorem xU {f : FuncId} {F G : List Nat} {ts : Array TypeId} {ws : List Operand} {xs : List V} (hx : rV n fr ws = some xs) (hc : ∀ h,Fn P f h xs v h) (k : OpsX P N (some (F,G)) ops l (aK n ((t,v) :: fr)) h K) (hG : d7 G f = false := by rfl) (hg : Gd ops n fr gd := by first | exact True.intro | exact ⟨_,rfl,_,rfl,by assumption⟩) : OpsX P N (some (F,G)) ops (⟨some t,.call ⟨.value (.func f),ws.toArray,ts⟩,ty,pos,aft,gd⟩ :: l) (aK n fr) h K := by
 refine ⟨_,_,gU hc hG ?_,k⟩
 cases gd with
 | none => exact sv (d6 hx lQ)
 | some p =>
  obtain ⟨j,w⟩ := p
  obtain ⟨u,hu,c,hb,he⟩ := hg
  exact svG hu hb he (d6 hx lQ)
variable {j w : Nat} {want c : Bool}
theorem xX (hc : c = !want) (k : OpsX P N m ops l (aK n ((t,.sc undef) :: fr)) h K) (hj : (ops[j]?).bind (·.dst) = some w := by rfl) (hl : bP n fr (.tmp w) = some (.sc (.bool c)) := by rfl) : OpsX P N m ops (⟨some t,op,ty,pos,aft,some (j,want)⟩ :: l) (aK n fr) h K := xS0 (svX hj hl hc) k
theorem OpsX.ghost {s' : List V} (hg : Ghost N s h s' h') (k : OpsX P N none ops l s' h' K) : OpsX P N none ops l s h K := OpsW.ghost hg k
end
theorem gD {p : Prop} (h : p := by first | exact True.intro | exact ⟨_,rfl,_,rfl,by assumption⟩) : p := h
inductive LSet {α : Type} : List α → Nat → α → List α → Prop
 | z {a b : α} {l : List α} : LSet (a :: l) 0 b (b :: l)
 | s {a b : α} {l l' : List α} {i : Nat} : LSet l i b l' → LSet (a :: l) (i + 1) b (a :: l')
theorem LSet.eq {α : Type} {l l' : List α} {i : Nat} {b : α} (h : LSet l i b l') : l.set i b = l' := by
 induction h with
 | z => rfl
 | s _ ih => rw [List.set_cons_succ,ih]
inductive Snoc {α : Type} : List α → α → List α → Prop
 | n {b : α} : Snoc [] b [b]
 | c {a b : α} {l l' : List α} : Snoc l b l' → Snoc (a :: l) b (a :: l')
theorem Snoc.eq {α : Type} {l l' : List α} {b : α} (h : Snoc l b l') : l ++ [b] = l' := by
 induction h with
 | n => rfl
 | c _ ih => rw [List.cons_append,ih]
inductive IsA : (List V → List V) → Nat → Prop
 | c {a : V} : IsA (List.cons a) 1
 | a4 {k : IntKind} {q : List Int} : IsA (eQ (eI k) q) 4
 | a8 {k : IntKind} {q : List Int} : IsA (ar8 (eI k) q) 8
 | a20 {k : IntKind} {q : List Int} : IsA (aFW (eI k) q) 20
 | a32 {k : IntKind} {q : List Int} : IsA (bG (eI k) q) 32
 | a64 {k : IntKind} {q : List Int} : IsA (aFy (eI k) q) 64
theorem IsA.eq {A : List V → List V} {n : Nat} (h : IsA A n) : ∃ p : List V,p.length = n ∧ ∀ r,A r = p ++ r := by
 cases h with
 | c => exact ⟨[_],rfl,fun _ => rfl⟩
 | a4 => exact ⟨eQ _ _ [],rfl,fun _ => rfl⟩
 | a8 => exact ⟨ar8 _ _ [],rfl,fun _ => rfl⟩
 | a20 => exact ⟨aFW _ _ [],rfl,fun _ => rfl⟩
 | a32 => exact ⟨bG _ _ [],rfl,fun _ => rfl⟩
 | a64 => exact ⟨aFy _ _ [],rfl,fun _ => rfl⟩
inductive Spl : List V → Nat → List V → List V → Prop
 | w {l r : List V} : r.length = l.length → Spl l 0 r r
 | d {l : List V} : Spl l 0 [] l
 | p {A B : List V → List V} {n : Nat} {l r l' : List V} : IsA A n → IsA B n → Spl l 0 r l' → Spl (A l) 0 (B r) (B l')
 | s {A : List V → List V} {n : Nat} {l r l' : List V} {o o' : Nat} : IsA A n → o' = o + n → Spl l o r l' → Spl (A l) o' r (A l')
theorem Spl.eq {l r l' : List V} {o : Nat} (h : Spl l o r l') : splice l o r = l' := by
 induction h with
 | w h => simp [splice,h]
 | d => simp [splice]
 | p hA hB _ ih =>
  obtain ⟨p,hp,e⟩ := hA.eq
  obtain ⟨q,hq,e'⟩ := hB.eq
  simp only [splice,List.take_zero,List.nil_append,Nat.zero_add] at ih ⊢
  rw [e,e',e',← ih,List.length_append,hq,← hp,List.drop_append,List.drop_eq_nil_of_le (by omega),List.nil_append,Nat.add_sub_cancel_left,List.append_assoc]
 | @s A n l r l' o o' hA he _ ih =>
  subst he
  obtain ⟨p,hp,e⟩ := hA.eq
  simp only [splice] at ih ⊢
  have h1 : (p ++ l).take (o + n) = p ++ l.take o := by rw [List.take_append,List.take_of_length_le (by omega),show o + n - p.length = o by omega]
  have h2 : (p ++ l).drop (o + n + r.length) = l.drop (o + r.length) := by rw [List.drop_append,List.drop_eq_nil_of_le (by omega),List.nil_append,show o + n + r.length - p.length = o + r.length by omega]
  rw [e,e,h1,h2,← ih,List.append_assoc,List.append_assoc,List.append_assoc]
inductive Tak : List V → Nat → Nat → List V → Prop
 | w {l : List V} {k : Nat} : l.length = k → Tak l 0 k l
 | d {l : List V} : Tak l 0 0 []
 | t {A : List V → List V} {n : Nat} {l r : List V} {k k' : Nat} : IsA A n → k' = k + n → Tak l 0 k r → Tak (A l) 0 k' (A r)
 | s {A : List V → List V} {n : Nat} {l r : List V} {o o' k : Nat} : IsA A n → o' = o + n → Tak l o k r → Tak (A l) o' k r
theorem Tak.eq {l r : List V} {o k : Nat} (h : Tak l o k r) : (l.drop o).take k = r ∧ k ≤ (l.drop o).length := by
 induction h with
 | w h => subst h; exact ⟨by simp,by simp⟩
 | d => exact ⟨rfl,Nat.zero_le _⟩
 | t hA he _ ih =>
  subst he
  obtain ⟨p,hp,e⟩ := hA.eq
  simp only [List.drop_zero] at ih ⊢
  rw [e,e,List.take_append,List.take_of_length_le (by omega),hp,Nat.add_sub_cancel,ih.1,List.length_append,hp]
  exact ⟨rfl,by omega⟩
 | @s A n l r o o' k hA he _ ih =>
  subst he
  obtain ⟨p,hp,e⟩ := hA.eq
  have h1 : (p ++ l).drop (o + n) = l.drop o := by rw [List.drop_append,List.drop_eq_nil_of_le (by omega),List.nil_append,show o + n - p.length = o by omega]
  rw [e,h1]
  exact ih
inductive OfC : Value → V → Prop
 | i {k : IntKind} {x : Int} : OfC (.int k x) (eI k x)
 | b {x : Bool} : OfC (.bool x) (eB x)
 | s {x : ByteArray} : OfC (.string x) (eS x)
 | l : OfC (.slice none 0 0) (.row (some true) 1 [])
 | p : OfC (.pointer none) (.sc (.pointer none))
theorem OfC.eq {v : Value} {a : V} (h : OfC v a) : dZ v = a := by cases h <;> rfl
theorem OfC.eq' {v : Value} {a : V} (h : OfC v a) : ofValue v = a := by cases h <;> rfl
theorem OfC.one {v : Value} {a : V} (h : OfC v a) : a.one = true ∧ v.cells = #[v] := by cases h <;> exact ⟨rfl,rfl⟩
inductive OfCs : List Value → List V → Prop
 | n : OfCs [] []
 | c {v : Value} {a : V} {vs : List Value} {as_ : List V} : OfC v a → OfCs vs as_ → OfCs (v :: vs) (a :: as_)
theorem OfCs.eq {vs : List Value} {as_ : List V} (h : OfCs vs as_) : vs.map dZ = as_ := by
 induction h with
 | n => rfl
 | c h _ ih => rw [List.map_cons,h.eq,ih]
theorem OfCs.one {vs : List Value} {as_ : List V} (h : OfCs vs as_) : as_.all V.one = true := by
 induction h with
 | n => rfl
 | c h _ ih => rw [List.all_cons,h.one.1,ih]; rfl
inductive Zro : Value → List V → Prop
 | a {vs : List Value} {cs : List V} : OfCs vs cs → Zro (.agg vs.toArray) cs
 | o {v : Value} {a : V} : OfC v a → Zro v [a]
theorem Zro.eq {v : Value} {cs : List V} (h : Zro v cs) : v.cells.toList.map dZ = cs ∧ cs.all V.one = true := by
 cases h with
 | a h => exact ⟨h.eq,h.one⟩
 | o h => rw [h.one.2]; exact ⟨by simp [h.eq],by simp [h.one.1]⟩
inductive Cel : V → List V → Prop
 | a {cs : List V} : cs.all V.one = true → Cel (.agg cs) cs
 | o {x : V} : x.one = true → x.cells = [x] → Cel x [x]
 | m {α : Type} {E : α → V} {q : List α} : (∀ x,(E x).one = true) → Cel (.agg (q.map E)) (q.map E)
theorem Cel.eq {x : V} {cs : List V} (h : Cel x cs) : x.cells = cs ∧ x.flatOk = true := by
 cases h with
 | a h => exact ⟨rfl,h⟩
 | o h1 h2 => exact ⟨h2,by simp [V.flatOk,h2,h1]⟩
 | m h => exact ⟨rfl,aRN h⟩
inductive Fil (pl : Array (Nat × Nat)) : List V → List (Nat × V) → List V → Prop
 | n {cs : List V} : Fil pl cs [] cs
 | c {cs ds es fs : List V} {i o k : Nat} {x : V} {ps : List (Nat × V)} : pl[i]? = some (o,k) → Cel x ds → ds.length = k → Nat.ble (o + k) cs.length = true → Spl cs o ds es → Fil pl es ps fs → Fil pl cs ((i,x) :: ps) fs
theorem Fil.eq {pl : Array (Nat × Nat)} {cs fs : List V} {ps : List (Nat × V)} (h : Fil pl cs ps fs) : pA (fun i => pl[i]?) cs ps = some fs := by
 induction h with
 | n => rfl
 | c h1 h2 h3 h4 h5 _ ih =>
  simp only [pA,h1]
  rw [if_pos ⟨h2.eq.2,by rw [h2.eq.1,h3],Nat.le_of_ble_eq_true h4⟩,h2.eq.1,h5.eq,ih]
class TiC (P : Program) (t : TypeId) (d : outParam TI) : Prop where
 h : aR P t = some d
class FaC (P : Program) (t : TypeId) (f : Nat) (k : outParam Nat) : Prop where
 p : ∀ b off,aP P t (.ptr b off) f = some (.ptr b (off + k))
 e : ∀ es i off,aP P t (.eptr es i off) f = some (.eptr es i (off + k))
class NoA (P : Program) (t : TypeId) : Prop where
 h : True
class PlC (P : Program) (t : TypeId) (pl : outParam (Array (Nat × Nat))) : Prop where
 h : kK P t = some pl
def aNN (op : BinOp) (k : IntKind) (a b : Int) : Option V := match op with
 | .add => some (eI k (k.wrap (a + b)))
 | .sub => some (eI k (k.wrap (a - b)))
 | .mul => some (eI k (k.wrap (a * b)))
 | .and => some (eI k (bits .and k a b))
 | .or => some (eI k (bits .or k a b))
 | .xor => some (eI k (bits .xor k a b))
 | .eql => some (eB (a == b))
 | .neq => some (eB (a != b))
 | .lss => some (eB (decide (a < b)))
 | .leq => some (eB (decide (a ≤ b)))
 | .gtr => some (eB (decide (b < a)))
 | .geq => some (eB (decide (b ≤ a)))
 | _ => none
theorem aPu {P : Program} {op : BinOp} {t : TypeId} {x y : Operand} {k : IntKind} {a b : Int} {v : V} (h : aNN op k a b = some v) : dR P op t x y (eI k a) (eI k b) = some v := by
 cases op <;> simp only [aNN,Option.some.injEq,reduceCtorEq] at h <;> subst h
 ·exact aPS ..
 ·exact aQz ..
 ·exact aPZ ..
 ·exact aPd ..
 ·exact aRs ..
 ·exact aP4 ..
 ·exact aPU ..
 ·exact aQC ..
 ·exact aPs ..
 ·exact aP3 ..
 ·exact aQr ..
 ·exact aQe ..
section
variable {P : Program} {N n t : Nat} {m : Option (List Nat × List Nat)} {ops : Array Oper} {l : List Oper} {fr : List (Nat × V)} {h h' : Hp} {K : List V → Hp → Prop} {op : Op} {ty : TypeId} {pos : String} {aft : Array Edge} {gd : Option (Nat × Bool)} {v a b : V} {x y z : Operand} {Q : Ex → List V → Hp → Prop} {s : List V} {k : IntKind} {i j : Int} {o e : Nat} {cs ds : List V} {ti di : TI} {u w : TypeId} {bo : BinOp} {p q : Nat} {c : Bool}
theorem xm (hx : bP n fr x = some a) (hg : Gd ops n fr gd) (q : OpsX P N m ops l (aK n ((t,a) :: fr)) h K) : OpsX P N m ops (⟨some t,.move x,ty,pos,aft,gd⟩ :: l) (aK n fr) h K := xS (iR hx) q hg
theorem xa (hx : bP n fr x = some a) (hg : Gd ops n fr gd) (q : OpsX P N m ops l (aK n ((t,a) :: fr)) h K) : OpsX P N m ops (⟨some t,.assign x,ty,pos,aft,gd⟩ :: l) (aK n fr) h K := xS (q4 hx) q hg
theorem xmc {v : Value} (hv : OfC v a) (hg : Gd ops n fr gd) (q : OpsX P N m ops l (aK n ((t,a) :: fr)) h K) : OpsX P N m ops (⟨some t,.move (.const v),ty,pos,aft,gd⟩ :: l) (aK n fr) h K := xm (by rw [← hv.eq']; rfl) hg q
theorem xac {v : Value} (hv : OfC v a) (hg : Gd ops n fr gd) (q : OpsX P N m ops l (aK n ((t,a) :: fr)) h K) : OpsX P N m ops (⟨some t,.assign (.const v),ty,pos,aft,gd⟩ :: l) (aK n fr) h K := xa (by rw [← hv.eq']; rfl) hg q
theorem xb (hx : bP n fr x = some (eI k i)) (hy : bP n fr y = some (eI k j)) (hv : aNN bo k i j = some v) (hg : Gd ops n fr gd) (q : OpsX P N m ops l (aK n ((t,v) :: fr)) h K) : OpsX P N m ops (⟨some t,.binOp bo u x y w,ty,pos,aft,gd⟩ :: l) (aK n fr) h K := xS (xZ hx hy (aPu hv)) q hg
theorem xno (hx : bP n fr x = some (eB c)) (hg : Gd ops n fr gd) (q : OpsX P N m ops l (aK n ((t,eB (!c)) :: fr)) h K) : OpsX P N m ops (⟨some t,.unOp .not u x,ty,pos,aft,gd⟩ :: l) (aK n fr) h K := xS (aJ6 hx (aRn _ _)) q hg
theorem xci {sz by_ : Nat} {zz : Value} {k' : IntKind} [D : TiC P u di] [T : TiC P w ⟨.int k',sz,by_,zz⟩] (hx : bP n fr x = some (eI k i)) (hg : Gd ops n fr gd) (q : OpsX P N m ops l (aK n ((t,eI k' (k'.wrap i)) :: fr)) h K) : OpsX P N m ops (⟨some t,.convert u w x,ty,pos,aft,gd⟩ :: l) (aK n fr) h K := xS (sX hx (qP _ ⟨_,D.h⟩ T.h rfl)) q hg
theorem xlR {α : Type} {E : α → V} {nl : Option Bool} {ml : List α} {sz by_ : Nat} {zz : Value} [T : TiC P u ⟨.slice e,sz,by_,zz⟩] (hx : bP n fr x = some (.row nl o (ml.map E))) (hg : Gd ops n fr gd) (q : OpsX P N m ops l (aK n ((t,eI .i64 (ml.length : Int)) :: fr)) h K) : OpsX P N m ops (⟨some t,.call ⟨.builtin .len,#[x],#[u]⟩,ty,pos,aft,gd⟩ :: l) (aK n fr) h K := xS (aOQ hx (aSz T.h)) q hg
theorem xlS {sz by_ : Nat} {zz : Value} {ag : Bool} [T : TiC P u ⟨.slice e,sz,by_,zz⟩] (hx : bP n fr x = some (.sl o p q w ag)) (hg : Gd ops n fr gd) (kk : OpsX P N m ops l (aK n ((t,eI .i64 (q : Int)) :: fr)) h K) : OpsX P N m ops (⟨some t,.call ⟨.builtin .len,#[x],#[u]⟩,ty,pos,aft,gd⟩ :: l) (aK n fr) h K := xS (aOQ hx (aS0 T.h)) kk hg
theorem xe {vs : List V} (hx : bP n fr x = some (.tup vs)) (hv : vs[o]? = some v) (hg : Gd ops n fr gd) (q : OpsX P N m ops l (aK n ((t,v) :: fr)) h K) : OpsX P N m ops (⟨some t,.extract x o,ty,pos,aft,gd⟩ :: l) (aK n fr) h K := xS (o9 hx hv) q hg
theorem xfp {f kk r : Nat} [F : FaC P u f kk] (hx : bP n fr x = some (.ptr o p)) (hr : p + kk = r) (hg : Gd ops n fr gd) (q : OpsX P N m ops l (aK n ((t,.ptr o r) :: fr)) h K) : OpsX P N m ops (⟨some t,.fieldAddr u x f,ty,pos,aft,gd⟩ :: l) (aK n fr) h K := xS (vT hx (hr ▸ F.p _ _)) q hg
theorem xfe {f kk r ix : Nat} [F : FaC P u f kk] (hx : bP n fr x = some (.eptr cs ix p)) (hr : p + kk = r) (hg : Gd ops n fr gd) (q : OpsX P N m ops l (aK n ((t,.eptr cs ix r) :: fr)) h K) : OpsX P N m ops (⟨some t,.fieldAddr u x f,ty,pos,aft,gd⟩ :: l) (aK n fr) h K := xS (vT hx (hr ▸ F.e _ _ _)) q hg
theorem xnp (hx : bP n fr x = some (.ptr o p)) (hg : Gd ops n fr gd) (q : OpsX P N m ops l (aK n ((t,.ptr o p) :: fr)) h K) : OpsX P N m ops (⟨some t,.nilCheck x,ty,pos,aft,gd⟩ :: l) (aK n fr) h K := xS (aRb hx) q hg
theorem xl1 [T : TiC P u ti] (hx : bP n fr x = some (.ptr o p)) (hb : h[o]? = some (some ⟨e,cs⟩)) (hc : (cs.drop p).head? = some v) (hd : b6 ti.desc = false) (hg : Gd ops n fr gd) (q : OpsX P N m ops l (aK n ((t,v) :: fr)) h K) : OpsX P N m ops (⟨some t,.load u x,ty,pos,aft,gd⟩ :: l) (aK n fr) h K := xS (bW hx (ldP hb (aAK T.h hd hc))) q hg
theorem xlN {fs : Array Field} {sz by_ : Nat} {zz : Value} [T : TiC P u ⟨.struct fs,sz,by_,zz⟩] (hx : bP n fr x = some (.ptr o p)) (hb : h[o]? = some (some ⟨e,cs⟩)) (hc : Tak cs p sz ds) (hg : Gd ops n fr gd) (q : OpsX P N m ops l (aK n ((t,.agg ds) :: fr)) h K) : OpsX P N m ops (⟨some t,.load u x,ty,pos,aft,gd⟩ :: l) (aK n fr) h K := xS (bW hx (ldP hb (vI T.h rfl hc.eq.2 hc.eq.1))) q hg
theorem xlX {α : Type} {E : α → V} {ml : List α} {r : α} [T : TiC P u ti] (hx : bP n fr x = some (.ptr o j.toNat)) (hb : h[o]? = some (some ⟨e,ml.map E⟩)) (hd : b6 ti.desc = false) (hi : b5 ml j = some r) (hg : Gd ops n fr gd) (q : OpsX P N m ops l (aK n ((t,E r) :: fr)) h K) : OpsX P N m ops (⟨some t,.load u x,ty,pos,aft,gd⟩ :: l) (aK n fr) h K := xS (bW hx (ldX T.h hd hb hi)) q hg
theorem aSB {α : Type} {E : α → V} {ml : List α} {r : α} [T : TiC P u ti] (hx : bP n fr x = some (.eptr (ml.map E) j.toNat p)) (hd : b6 ti.desc = false) (hi : b5 ml j = some r) (hc : ((E r).cells.drop p).head? = some v) (hg : Gd ops n fr gd) (q : OpsX P N m ops l (aK n ((t,v) :: fr)) h K) : OpsX P N m ops (⟨some t,.load u x,ty,pos,aft,gd⟩ :: l) (aK n fr) h K := xS (bW hx (ldR hi (aAK T.h hd hc))) q hg
theorem aSA {α : Type} {E : α → V} {ml : List α} {r : α} {fs : Array Field} {sz by_ : Nat} {zz : Value} [T : TiC P u ⟨.struct fs,sz,by_,zz⟩] (hx : bP n fr x = some (.eptr (ml.map E) j.toNat p)) (hi : b5 ml j = some r) (hE : E r = .agg cs) (hc : Tak cs p sz ds) (hg : Gd ops n fr gd) (q : OpsX P N m ops l (aK n ((t,.agg ds) :: fr)) h K) : OpsX P N m ops (⟨some t,.load u x,ty,pos,aft,gd⟩ :: l) (aK n fr) h K := xS (bW hx (ldR hi (by rw [hE]; exact vI T.h rfl hc.eq.2 hc.eq.1))) q hg
inductive ArM : List V → List V → Prop
 | a4 {k : IntKind} {q : List Int} : q.length = 4 → ArM (eQ (eI k) q []) (q.map (eI k))
 | a8 {k : IntKind} {q : List Int} : q.length = 8 → ArM (ar8 (eI k) q []) (q.map (eI k))
 | a20 {k : IntKind} {q : List Int} : q.length = 20 → ArM (aFW (eI k) q []) (q.map (eI k))
 | a32 {k : IntKind} {q : List Int} : q.length = 32 → ArM (bG (eI k) q []) (q.map (eI k))
 | a64 {k : IntKind} {q : List Int} : q.length = 64 → ArM (aFy (eI k) q []) (q.map (eI k))
theorem ArM.eq {a b : List V} (h : ArM a b) : a = b := by
 cases h with
 | a4 h => exact aCP h
 | a8 h => exact aPz h
 | a20 h => exact aNS h
 | a32 h => exact sK h
 | a64 h => exact aNG h
theorem xlA {es : List V} {N' sz by_ : Nat} {zz : Value} [T : TiC P u ⟨.array N' w,sz,by_,zz⟩] (hx : bP n fr x = some (.ptr o p)) (hb : h[o]? = some (some ⟨e,cs⟩)) (hc : Tak cs p sz ds) (ha : ArM ds es) (hg : Gd ops n fr gd) (q : OpsX P N m ops l (aK n ((t,.agg es) :: fr)) h K) : OpsX P N m ops (⟨some t,.load u x,ty,pos,aft,gd⟩ :: l) (aK n fr) h K := xS (bW hx (ldP hb (by rw [← ha.eq]; exact vI T.h rfl hc.eq.2 hc.eq.1))) q hg
theorem xlB {α : Type} {E : α → V} {ml : List α} {N' sz by_ : Nat} {zz : Value} [T : TiC P u ⟨.array N' w,sz,by_,zz⟩] (hx : bP n fr x = some (.ptr o 0)) (hb : h[o]? = some (some ⟨e,ml.map E⟩)) (hz : sz = N') (hl : ml.length = N') (hg : Gd ops n fr gd) (q : OpsX P N m ops l (aK n ((t,.agg (ml.map E)) :: fr)) h K) : OpsX P N m ops (⟨some t,.load u x,ty,pos,aft,gd⟩ :: l) (aK n fr) h K := xS (bW hx (xT T.h hz hb hl)) q hg
theorem xiR {α : Type} {E : α → V} {nl : Option Bool} {ml : List α} {r : α} {sz by_ : Nat} {zz : Value} [T : TiC P u ⟨.slice e,sz,by_,zz⟩] [D : TiC P e di] (hx : bP n fr x = some (.row nl o (ml.map E))) (hy : bP n fr y = some (eI k j)) (hs : di.size = o) (hi : b5 ml j = some r) (hg : Gd ops n fr gd) (q : OpsX P N m ops l (aK n ((t,.eptr (ml.map E) j.toNat 0) :: fr)) h K) : OpsX P N m ops (⟨some t,.indexAddr u x y,ty,pos,aft,gd⟩ :: l) (aK n fr) h K := xS (aAn hx hy (by subst hs; exact iaR T.h D.h hi)) q hg
theorem xiS {α : Type} {E : α → V} {ml : List α} {r : α} {q0 sz by_ : Nat} {zz : Value} {ag : Bool} [T : TiC P u ⟨.slice e,sz,by_,zz⟩] [D : TiC P e di] (hx : bP n fr x = some (.sl o 0 q0 1 ag)) (hy : bP n fr y = some (eI k j)) {e' : Nat} (hb : h[o]? = some (some ⟨e',ml.map E⟩)) (hi : b5 ml j = some r) (hn : ml.length = q0) (hs : di.size = 1) (hg : Gd ops n fr gd) (q : OpsX P N m ops l (aK n ((t,.ptr o j.toNat) :: fr)) h K) : OpsX P N m ops (⟨some t,.indexAddr u x y,ty,pos,aft,gd⟩ :: l) (aK n fr) h K := xS (aAn hx hy (iaS hn T.h D.h hs hi)) q hg
theorem xiB {α : Type} {E : α → V} {ml : List α} {r : α} {N' sz by_ : Nat} {zz : Value} [T : TiC P u ⟨.array N' e,sz,by_,zz⟩] [D : TiC P e di] (hx : bP n fr x = some (.ptr o 0)) (hy : bP n fr y = some (eI k j)) {e' : Nat} (hb : h[o]? = some (some ⟨e',ml.map E⟩)) (hi : bJ N' ml j = some r) (hs : di.size = 1) (hg : Gd ops n fr gd) (q : OpsX P N m ops l (aK n ((t,.ptr o j.toNat) :: fr)) h K) : OpsX P N m ops (⟨some t,.indexAddr u x y,ty,pos,aft,gd⟩ :: l) (aK n fr) h K := xS (aAn hx hy (iaB T.h D.h hs hi)) q hg
theorem xVv {jj ww : Nat} {want : Bool} (hj : (ops[jj]?).bind (·.dst) = some ww) (hl : bP n fr (.tmp ww) = some (.sc undef)) (q : OpsX P N m ops l (aK n ((t,.sc undef) :: fr)) h K) : OpsX P N m ops (⟨some t,op,ty,pos,aft,some (jj,want)⟩ :: l) (aK n fr) h K := xS0 (svU hj hl) q
theorem xXx {jj ww : Nat} {want : Bool} (hj : (ops[jj]?).bind (·.dst) = some ww) (hl : bP n fr (.tmp ww) = some (.sc (.bool c))) (hc : c = !want) (q : OpsX P N m ops l (aK n ((t,.sc undef) :: fr)) h K) : OpsX P N m ops (⟨some t,op,ty,pos,aft,some (jj,want)⟩ :: l) (aK n fr) h K := xS0 (svX hj hl hc) q
def aOC : List Oper → Bool
 | [] => true
 | o :: l => (match o.guard,o.op with
  | none,.pick _ _ _ => false
  | none,_ => true
  | some _,_ => false) && aOC l
theorem xqn {cc : Code} {id : Nat} (hn : aOC l = true) (hr : OpsX P N none l.toArray l s h (Ex.then (AB P N cc Q) Q .normal)) : AB P N (.seq (.region id l.toArray false) cc) Q s h := xq hr
theorem xrn {id : Nat} (hn : aOC l = true) (hr : OpsX P N none l.toArray l s h (Q .normal)) : AB P N (.region id l.toArray false) Q s h := xr hr
theorem xsA {α : Type} {E : α → V} {ml mm : List α} {N' sz by_ i' : Nat} {zz : Value} [T : TiC P u ⟨.array N' e,sz,by_,zz⟩] (hx : bP n fr x = some (.ptr o 0)) (hb : h[o]? = some (some ⟨i',ml.map E⟩)) (hy : bP n fr y = some (.agg (mm.map E))) (hz : sz = N') (hE : ∀ x,(E x).one = true) (h1 : ml.length = N') (h2 : mm.length = N') (hh : LSet h o (some ⟨i',mm.map E⟩) h') (hg : Gd ops n fr gd) (q : OpsX P N m ops l (aK n fr) h' K) : OpsX P N m ops (⟨none,.store u x y,ty,pos,aft,gd⟩ :: l) (aK n fr) h K := xN (v := .sc undef) (h' := h') (bN hx hy (q5 T.h hz hb hE h1 h2 hh.eq)) q hg
theorem xs [T : TiC P u ti] (hx : bP n fr x = some (.ptr o p)) (hy : bP n fr y = some v) (hb : h[o]? = some (some ⟨e,cs⟩)) {es fs : List V} (hv : Cel v es) (h1 : es.length = ti.size) (h2 : Nat.ble (p + ti.size) cs.length = true) (hs : Spl cs p es fs) (hh : LSet h o (some ⟨e,fs⟩) h') (hg : Gd ops n fr gd) (q : OpsX P N m ops l (aK n fr) h' K) : OpsX P N m ops (⟨none,.store u x y,ty,pos,aft,gd⟩ :: l) (aK n fr) h K := by
 obtain ⟨hv1,hv2⟩ := hv.eq
 refine xN (v := .sc undef) (h' := h') (bN hx hy (sV T.h hb hv2 (by rw [hv1,h1]) (Nat.le_of_ble_eq_true h2) ?_)) q hg
 rw [hv1,hs.eq,hh.eq]
theorem xsX {α : Type} {E : α → V} {ml : List α} {r r' : α} [T : TiC P u ti] (hx : bP n fr x = some (.ptr o j.toNat)) (hb : h[o]? = some (some ⟨e,ml.map E⟩)) (hy : bP n fr y = some (E r')) (hz : ti.size = 1) (hi : b5 ml j = some r) (ho : (E r').one = true) (hc : (E r').cells = [E r']) (hh : LSet h o (some ⟨e,(ml.set j.toNat r').map E⟩) h') (hg : Gd ops n fr gd) (q : OpsX P N m ops l (aK n fr) h' K) : OpsX P N m ops (⟨none,.store u x y,ty,pos,aft,gd⟩ :: l) (aK n fr) h K := xN (v := .sc undef) (h' := h') (bN hx hy (aTr T.h hz hb hi ho hc hh.eq)) q hg
theorem xal {r : Nat} [A : NoA P e] [T : TiC P e ti] (hz : Zro ti.zero cs) (hh : Snoc h (some ⟨e,cs⟩) h') (hl : h.length = r) (hg : Gd ops n fr gd) (q : OpsX P N m ops l (aK n ((t,.ptr r 0) :: fr)) h' K) : OpsX P N m ops (⟨some t,.alloc e,ty,pos,aft,gd⟩ :: l) (aK n fr) h K :=
 xS (cD T.h (by rw [hz.eq.1]; exact hz.eq.2) hl (by rw [hz.eq.1]; exact hh.eq)) q hg
theorem aSY {r N' sz by_ sz' by' : Nat} {k' : IntKind} {e' : TypeId} {vs : List Value} {z' : Value} [T : TiC P e ⟨.array N' e',sz,by_,.agg vs.toArray⟩] [D : TiC P e' ⟨.int k',sz',by',z'⟩] (hz : vs.map dZ = (List.replicate N' 0).map (eI k')) (hh : Snoc h (some ⟨e,(List.replicate N' 0).map (eI k')⟩) h') (hl : h.length = r) (hg : Gd ops n fr gd) (q : OpsX P N m ops l (aK n ((t,.ptr r 0) :: fr)) h' K) : OpsX P N m ops (⟨some t,.alloc e,ty,pos,aft,gd⟩ :: l) (aK n fr) h K :=
 xS (cD T.h (by
  have e1 : (TI.zero ⟨.array N' e',sz,by_,.agg vs.toArray⟩).cells.toList.map dZ = (List.replicate N' 0).map (eI k') := hz
  rw [e1]; exact all_map (fun _ => rfl) _) hl (by
  have e1 : (TI.zero ⟨.array N' e',sz,by_,.agg vs.toArray⟩).cells.toList.map dZ = (List.replicate N' 0).map (eI k') := hz
  rw [e1]; exact hh.eq)) q hg
theorem xbx {r : Nat} (hx : bP n fr x = some a) (hv : Cel a cs) (hh : Snoc h (some ⟨e,cs⟩) h') (hl : h.length = r) (hg : Gd ops n fr gd) (q : OpsX P N m ops l (aK n ((t,.ptr r 0) :: fr)) h' K) : OpsX P N m ops (⟨some t,.box e x,ty,pos,aft,gd⟩ :: l) (aK n fr) h K :=
 xS (aSe hx hv.eq.2 hl (by rw [hv.eq.1]; exact hh.eq)) q hg
theorem xbd {fs : Array Field} {sz by_ : Nat} {zz : Value} {pl : Array (Nat × Nat)} {ps : List (Nat × Operand)} {xs : List (Nat × V)} [T : TiC P u ⟨.struct fs,sz,by_,zz⟩] [L : PlC P u pl] [A : NoA P u] (hp : aCQ n fr ps = some xs) (hz : Zro zz cs) (hf : Fil pl cs xs ds) (hg : Gd ops n fr gd) (q : OpsX P N m ops l (aK n ((t,.agg ds) :: fr)) h K) : OpsX P N m ops (⟨some t,.build u ps.toArray,ty,pos,aft,gd⟩ :: l) (aK n fr) h K :=
 xS (bQ hp (qL T.h L.h (by rw [hz.eq.1]; exact hf.eq))) q hg
theorem xpT (hz : bP n fr z = some (eB c)) (hc : c = true) (hx : bP n fr x = some a) (hg : Gd ops n fr gd) (q : OpsX P N m ops l (aK n ((t,a) :: fr)) h K) : OpsX P N m ops (⟨some t,.pick z x y,ty,pos,aft,gd⟩ :: l) (aK n fr) h K := xS (aQg hz hc hx) q hg
theorem xpF (hz : bP n fr z = some (eB c)) (hc : c = false) (hy : bP n fr y = some a) (hg : Gd ops n fr gd) (q : OpsX P N m ops l (aK n ((t,a) :: fr)) h K) : OpsX P N m ops (⟨some t,.pick z x y,ty,pos,aft,gd⟩ :: l) (aK n fr) h K := xS (aP1 hz hc hy) q hg
inductive NumK (k : IntKind) : Nat → List (Nat × V) → List Int → Prop
 | n {i : Nat} : NumK k i [] []
 | c {i : Nat} {x : Int} {ps : List (Nat × V)} {xs : List Int} : NumK k (i + 1) ps xs → NumK k i ((i,eI k x) :: ps) (x :: xs)
theorem NumK.eq {k : IntKind} {i : Nat} {ps : List (Nat × V)} {xs : List Int} (h : NumK k i ps xs) : tI i (xs.map (eI k)) = ps := by
 induction h with
 | n => rfl
 | c _ ih => simp only [List.map_cons,tI]; rw [ih]
inductive NumB : Nat → List (Nat × V) → List Bool → Prop
 | n {i : Nat} : NumB i [] []
 | c {i : Nat} {x : Bool} {ps : List (Nat × V)} {xs : List Bool} : NumB (i + 1) ps xs → NumB i ((i,eB x) :: ps) (x :: xs)
theorem NumB.eq {i : Nat} {ps : List (Nat × V)} {xs : List Bool} (h : NumB i ps xs) : tI i (xs.map eB) = ps := by
 induction h with
 | n => rfl
 | c _ ih => simp only [List.map_cons,tI]; rw [ih]
inductive NumR {α : Type} (kk : Nat) (E : α → V) : Nat → List (Nat × V) → List (List α) → Prop
 | n {i : Nat} : NumR kk E i [] []
 | c {i : Nat} {x : List α} {ps : List (Nat × V)} {xs : List (List α)} : NumR kk E (i + 1) ps xs → NumR kk E i ((i,.row none kk (x.map E)) :: ps) (x :: xs)
 | z {i : Nat} {ps : List (Nat × V)} {xs : List (List α)} : NumR kk E (i + 1) ps xs → NumR kk E i ((i,.row none kk []) :: ps) ([] :: xs)
theorem NumR.eq {α : Type} {kk : Nat} {E : α → V} {i : Nat} {ps : List (Nat × V)} {xs : List (List α)} (h : NumR kk E i ps xs) : tI i (xs.map (eL kk E)) = ps := by
 induction h with
 | n => rfl
 | z _ ih => simp only [List.map_cons,tI]; rw [ih]; rfl
 | c _ ih => simp only [List.map_cons,tI]; rw [ih]
theorem aSW {α : Type} {E : α → V} (hE : ∀ x,(E x).one = true) (hc : ∀ x,(E x).cells = [E x]) (xs : List α) : (xs.map E).all (fun x => x.one && (x.cells.length == 1)) = true := by
 simp [List.all_eq_true,hE,hc]
theorem aOc {α : Type} {E : α → V} {js : List α} {len sz by_ r : Nat} {zz : Value} {ps : List (Nat × Operand)} {xs : List (Nat × V)} [T : TiC P u ⟨.slice e,sz,by_,zz⟩] [D : TiC P e di] (hp : vR n fr ps = some xs) (hn : tI 0 (js.map E) = xs) (hE : ∀ x,(E x).one = true) (hc : ∀ x,(E x).cells = [E x]) (hs : di.size = 1) {ag : Bool} (ha : b6 di.desc = ag) (h1 : Nat.ble (len * 1) (2 ^ 24) = true) (h2 : Nat.ble 1 len = true) (hlen : js.length = len) (hh : Snoc h (some ⟨e,js.map E⟩) h') (hl : h.length = r) (hg : Gd ops n fr gd) (q : OpsX P N m ops l (aK n ((t,.sl r 0 len 1 ag) :: fr)) h' K) : OpsX P N m ops (⟨some t,.buildSlice u len ps.toArray,ty,pos,aft,gd⟩ :: l) (aK n fr) h K :=
 xS (lF hp (aIH T.h D.h (Nat.le_of_ble_eq_true h1) (Nat.le_of_ble_eq_true h2) hs ha hn (aSW hE hc _) (by rw [List.length_map]; exact hlen) hl hh.eq)) q hg
theorem aSV {js : List Int} {len sz by_ r sz' by' : Nat} {zz z' : Value} {ps : List (Nat × Operand)} {xs : List (Nat × V)} [T : TiC P u ⟨.slice e,sz,by_,zz⟩] [D : TiC P e ⟨.int k,sz',by',z'⟩] (hp : vR n fr ps = some xs) (hn : NumK k 0 xs js) (hs : sz' = 1) (h1 : Nat.ble (len * 1) (2 ^ 24) = true) (h2 : Nat.ble 1 len = true) (hlen : js.length = len) (hh : Snoc h (some ⟨e,js.map (eI k)⟩) h') (hl : h.length = r) (hg : Gd ops n fr gd) (q : OpsX P N m ops l (aK n ((t,.sl r 0 len 1 false) :: fr)) h' K) : OpsX P N m ops (⟨some t,.buildSlice u len ps.toArray,ty,pos,aft,gd⟩ :: l) (aK n fr) h K := aOc (ag := false) hp hn.eq (fun _ => rfl) (fun _ => rfl) hs rfl h1 h2 hlen hh hl hg q
theorem aSX {js : List Bool} {len sz by_ r sz' by' : Nat} {zz z' : Value} {ps : List (Nat × Operand)} {xs : List (Nat × V)} [T : TiC P u ⟨.slice e,sz,by_,zz⟩] [D : TiC P e ⟨.bool,sz',by',z'⟩] (hp : vR n fr ps = some xs) (hn : NumB 0 xs js) (hs : sz' = 1) (h1 : Nat.ble (len * 1) (2 ^ 24) = true) (h2 : Nat.ble 1 len = true) (hlen : js.length = len) (hh : Snoc h (some ⟨e,js.map eB⟩) h') (hl : h.length = r) (hg : Gd ops n fr gd) (q : OpsX P N m ops l (aK n ((t,.sl r 0 len 1 false) :: fr)) h' K) : OpsX P N m ops (⟨some t,.buildSlice u len ps.toArray,ty,pos,aft,gd⟩ :: l) (aK n fr) h K := aOc (ag := false) hp hn.eq (fun _ => rfl) (fun _ => rfl) hs rfl h1 h2 hlen hh hl hg q
theorem aTt {α : Type} {E : α → V} {kk : Nat} {js : List (List α)} {len sz by_ r sz' by' : Nat} {zz z' : Value} {e' : TypeId} {ps : List (Nat × Operand)} {xs : List (Nat × V)} [T : TiC P u ⟨.slice e,sz,by_,zz⟩] [D : TiC P e ⟨.slice e',sz',by',z'⟩] (hp : vR n fr ps = some xs) (hn : NumR kk E 0 xs js) (hs : sz' = 1) (h1 : Nat.ble (len * 1) (2 ^ 24) = true) (h2 : Nat.ble 1 len = true) (hlen : js.length = len) (hh : Snoc h (some ⟨e,js.map (eL kk E)⟩) h') (hl : h.length = r) (hg : Gd ops n fr gd) (q : OpsX P N m ops l (aK n ((t,.sl r 0 len 1 false) :: fr)) h' K) : OpsX P N m ops (⟨some t,.buildSlice u len ps.toArray,ty,pos,aft,gd⟩ :: l) (aK n fr) h K := aOc (ag := false) hp hn.eq (fun _ => rfl) (fun _ => rfl) hs rfl h1 h2 hlen hh hl hg q
theorem aTu {k' : IntKind} {r : Int} (hx : bP n fr x = some (eI k i)) (hy : bP n fr y = some (eI k' j)) (hv : shl k i j = some r) (hg : Gd ops n fr gd) (q : OpsX P N m ops l (aK n ((t,eI k r) :: fr)) h K) : OpsX P N m ops (⟨some t,.binOp .shl u x y w,ty,pos,aft,gd⟩ :: l) (aK n fr) h K := xS (xZ hx hy (aOh _ _ _ _ hv)) q hg
theorem aSu {k' : IntKind} {r : Int} (hx : bP n fr x = some (eI k i)) (hy : bP n fr y = some (eI k' j)) (hv : shr k i j = some r) (hg : Gd ops n fr gd) (q : OpsX P N m ops l (aK n ((t,eI k r) :: fr)) h K) : OpsX P N m ops (⟨some t,.binOp .shr u x y w,ty,pos,aft,gd⟩ :: l) (aK n fr) h K := xS (xZ hx hy (aN2 _ _ _ _ hv)) q hg
theorem aTm {r : Int} (hx : bP n fr x = some (eI k i)) (hy : bP n fr y = some (eI k j)) (hv : quo k i j = some r) (hg : Gd ops n fr gd) (q : OpsX P N m ops l (aK n ((t,eI k r) :: fr)) h K) : OpsX P N m ops (⟨some t,.binOp .quo u x y w,ty,pos,aft,gd⟩ :: l) (aK n fr) h K := xS (xZ hx hy (aNp _ _ _ _ hv)) q hg
theorem aTD {r : Int} (hx : bP n fr x = some (eI k i)) (hy : bP n fr y = some (eI k j)) (hv : rem i j = some r) (hg : Gd ops n fr gd) (q : OpsX P N m ops l (aK n ((t,eI k r) :: fr)) h K) : OpsX P N m ops (⟨some t,.binOp .rem u x y w,ty,pos,aft,gd⟩ :: l) (aK n fr) h K := xS (xZ hx hy (aNC _ _ _ _ hv)) q hg
class DepC (P : Program) : Prop where
 h : 2 ≤ P.depth
theorem xeA {k' : IntKind} {N' sz by_ sz' by' : Nat} {zz z' : Value} {ml mm : List Int} [A : DepC P] [T : TiC P u ⟨.array N' e,sz,by_,zz⟩] [D : TiC P e ⟨.int k',sz',by',z'⟩] (hx : bP n fr x = some (.agg (ml.map (eI k)))) (hy : bP n fr y = some (.agg (mm.map (eI k)))) (hz : sz' = 1) (h1 : ml.length = N') (h2 : mm.length = N') (hg : Gd ops n fr gd) (q : OpsX P N m ops l (aK n ((t,eB (ml == mm)) :: fr)) h K) : OpsX P N m ops (⟨some t,.binOp .eql u x y w,ty,pos,aft,gd⟩ :: l) (aK n fr) h K := xS (xZ hx hy (aNH _ _ T.h D.h hz A.h h1 h2)) q hg
theorem xnA {k' : IntKind} {N' sz by_ sz' by' : Nat} {zz z' : Value} {ml mm : List Int} [A : DepC P] [T : TiC P u ⟨.array N' e,sz,by_,zz⟩] [D : TiC P e ⟨.int k',sz',by',z'⟩] (hx : bP n fr x = some (.agg (ml.map (eI k)))) (hy : bP n fr y = some (.agg (mm.map (eI k)))) (hz : sz' = 1) (h1 : ml.length = N') (h2 : mm.length = N') (hg : Gd ops n fr gd) (q : OpsX P N m ops l (aK n ((t,eB (!(ml == mm))) :: fr)) h K) : OpsX P N m ops (⟨some t,.binOp .neq u x y w,ty,pos,aft,gd⟩ :: l) (aK n fr) h K := xS (xZ hx hy (aOu _ _ T.h D.h hz A.h h1 h2)) q hg
theorem xsR {α : Type} {E : α → V} {ml r : List α} {nl : Option Bool} {sz by_ : Nat} {zz : Value} {lo hi : Option Operand} {vl vh : Option V} {c1 c2 : Int} [T : TiC P u ⟨.slice e,sz,by_,zz⟩] [D : TiC P e di] (hx : bP n fr x = some (.row nl o (ml.map E))) (h1 : aHE n fr lo = some vl) (h2 : aHE n fr hi = some vh) (ha : pC vl = some c1) (hb : vA vh ml.length = some c2) (hs : sub ml c1 c2 = some r) (ho : di.size = o) {nl' : Option Bool} (hq : nlS nl = nl') (hg : Gd ops n fr gd) (q : OpsX P N m ops l (aK n ((t,.row nl' o (r.map E)) :: fr)) h K) : OpsX P N m ops (⟨some t,.slice u x lo hi none,ty,pos,aft,gd⟩ :: l) (aK n fr) h K := by
 subst ho hq; exact xS (eT hx h1 h2 (slR T.h D.h ha hb hs)) q hg
theorem xsL {α : Type} {E : α → V} {ml : List α} {N' sz by_ i' : Nat} {zz : Value} {ag : Bool} [T : TiC P u ⟨.array N' e,sz,by_,zz⟩] [D : TiC P e di] (hx : bP n fr x = some (.ptr o 0)) (hb : h[o]? = some (some ⟨i',ml.map E⟩)) (hs : di.size = 1) (ha : b6 di.desc = ag) (h1 : ml.length = N') (h2 : Nat.ble 1 N' = true) (h3 : Nat.ble N' mZ = true) (hg : Gd ops n fr gd) (q : OpsX P N m ops l (aK n ((t,.sl o 0 N' 1 ag) :: fr)) h K) : OpsX P N m ops (⟨some t,.slice u x none none none,ty,pos,aft,gd⟩ :: l) (aK n fr) h K := xS (eT hx rfl rfl (slA T.h D.h hs ha hb h1 ⟨Nat.le_of_ble_eq_true h2,Nat.le_of_ble_eq_true h3⟩)) q hg
theorem xiK {α : Type} {C : α → List V} {ml : List α} {r : α} {q0 sz by_ e' : Nat} {zz : Value} [T : TiC P u ⟨.slice e,sz,by_,zz⟩] [D : TiC P e di] (hx : bP n fr x = some (.sl o 0 q0 p true)) (hy : bP n fr y = some (eI k j)) (hb : h[o]? = some (some ⟨e',ml.flatMap C⟩)) (hi : b5 ml j = some r) (hn : ml.length = q0) (hs : di.size = p) (hg : Gd ops n fr gd) (q : OpsX P N m ops l (aK n ((t,.ptr o (0 + j.toNat * p)) :: fr)) h K) : OpsX P N m ops (⟨some t,.indexAddr u x y,ty,pos,aft,gd⟩ :: l) (aK n fr) h K := xS (aAn hx hy (aLU hn T.h D.h hs hi)) q hg
inductive Sr1 {α : Type} (E : α → V) (h : Hp) : V → List α → Prop
 | r {nl : Option Bool} {ml : List α} : (∀ x,(E x).cells = [E x]) → Sr1 E h (.row nl 1 (ml.map E)) ml
 | s {b q e : Nat} {ag : Bool} {ml : List α} : h[b]? = some (some ⟨e,ml.map E⟩) → ml.length = q → Sr1 E h (.sl b 0 q 1 ag) ml
 | n {nl : Option Bool} {k : Nat} : Sr1 E h (.row nl k []) []
theorem Sr1.eq {α : Type} {E : α → V} {h : Hp} {v : V} {ml : List α} (hs : Sr1 E h v ml) : iE h 1 v = some (ml.map E,ml.length) := by
 cases hs with
 | r hE => exact aG6 hE
 | s hb hq => exact aSL hq hb
 | n => exact aTb
inductive SrK {α : Type} (C : α → List V) (K : Nat) (h : Hp) : V → List α → Prop
 | r {nl : Option Bool} {ml : List α} : SrK C K h (.row nl K (ml.map fun x => V.agg (C x))) ml
 | s {b q e : Nat} {ml : List α} : (∀ x,(C x).length = K) → h[b]? = some (some ⟨e,ml.flatMap C⟩) → ml.length = q → SrK C K h (.sl b 0 q K true) ml
 | n {nl : Option Bool} {k : Nat} : SrK C K h (.row nl k []) []
theorem SrK.eq {α : Type} {C : α → List V} {K : Nat} {h : Hp} {v : V} {ml : List α} (hs : SrK C K h v ml) : iE h K v = some (ml.flatMap C,ml.length) := by
 cases hs with
 | r => exact aRL
 | s hC hb hq => exact aR9 hC hq hb
 | n => exact aRM
theorem xap {α : Type} {E : α → V} {ml mm r : List α} {q0 sz by_ r0 : Nat} {zz : Value} {ag : Bool} {h2 : Hp} [T : TiC P u ⟨.slice e,sz,by_,zz⟩] [D : TiC P e di] (hx : bP n fr x = some (.sl o 0 q0 1 ag)) (hy : bP n fr y = some v) (hb : h[o]? = some (some ⟨e,ml.map E⟩)) (hs : Sr1 E h v mm) (hn : ml.length = q0) (h1 : di.zero.cells.size = 1) (h3 : di.size = 1) (h4 : Nat.ble 1 di.bytes = true) {bb : Nat} (hbb : di.bytes = bb) (ha : app bb ml mm = some r) (hh : LSet h o none h2) (hh' : Snoc h2 (some ⟨e,r.map E⟩) h') (hl : h.length = r0) (hg : Gd ops n fr gd) (q : OpsX P N m ops l (aK n ((t,.sl r0 0 r.length 1 ag) :: fr)) h' K) : OpsX P N m ops (⟨some t,.call ⟨.builtin .append,#[x,y],#[u,u]⟩,ty,pos,aft,gd⟩ :: l) (aK n fr) h K := by
 subst hbb; exact xS (aBI hx hy (aSS hn T.h D.h ⟨h1,h3,Nat.le_of_ble_eq_true h4⟩ hb hs.eq ha hl (by rw [hh.eq,hh'.eq]))) q hg
theorem xan {α : Type} {E : α → V} {mm r : List α} {sz by_ r0 kk : Nat} {zz : Value} {ag : Bool} {h2 : Hp} [T : TiC P u ⟨.slice e,sz,by_,zz⟩] [D : TiC P e di] (hx : bP n fr x = some (.row (some true) kk [])) (hy : bP n fr y = some v) (hs : Sr1 E h v mm) (h1 : di.zero.cells.size = 1) (h3 : di.size = 1) (h4 : Nat.ble 1 di.bytes = true) (hag : b6 di.desc = ag) {bb : Nat} (hbb : di.bytes = bb) (ha : app bb [] mm = some r) (hh : Snoc h none h2) (hh' : Snoc h2 (some ⟨e,r.map E⟩) h') (hl : h2.length = r0) (hg : Gd ops n fr gd) (q : OpsX P N m ops l (aK n ((t,.sl r0 0 r.length 1 ag) :: fr)) h' K) : OpsX P N m ops (⟨some t,.call ⟨.builtin .append,#[x,y],#[u,u]⟩,ty,pos,aft,gd⟩ :: l) (aK n fr) h K := by
 subst hbb; exact xS (aBI hx hy (aTw T.h D.h ⟨h1,h3,Nat.le_of_ble_eq_true h4⟩ hs.eq hag ha (by rw [← hl,← hh.eq]; simp) (by rw [hh.eq,hh'.eq]))) q hg
theorem aTs {α : Type} {C : α → List V} {ml mm r : List α} {q0 sz by_ r0 : Nat} {zz : Value} {h2 : Hp} [T : TiC P u ⟨.slice e,sz,by_,zz⟩] [D : TiC P e di] (hx : bP n fr x = some (.sl o 0 q0 p true)) (hy : bP n fr y = some v) (hb : h[o]? = some (some ⟨e,ml.flatMap C⟩)) (hC : ∀ x,(C x).length = p) (hs : SrK C p h v mm) (hn : ml.length = q0) (h1 : di.zero.cells.size = p) (h3 : di.size = p) (h4 : Nat.ble 1 di.bytes = true) (h5 : Nat.ble 1 p = true) {bb : Nat} (hbb : di.bytes = bb) (ha : app bb ml mm = some r) (hh : LSet h o none h2) (hh' : Snoc h2 (some ⟨e,r.flatMap C⟩) h') (hl : h.length = r0) (hg : Gd ops n fr gd) (q : OpsX P N m ops l (aK n ((t,.sl r0 0 r.length p true) :: fr)) h' K) : OpsX P N m ops (⟨some t,.call ⟨.builtin .append,#[x,y],#[u,u]⟩,ty,pos,aft,gd⟩ :: l) (aK n fr) h K := by
 subst hbb; exact xS (aBI hx hy (aR7 hC hn T.h D.h ⟨h1,h3,Nat.le_of_ble_eq_true h4,Nat.le_of_ble_eq_true h5⟩ hb hs.eq ha hl (by rw [hh.eq,hh'.eq]))) q hg
end
structure aSt (q : Prop) : Prop where
 h : q
section
variable {P : Program} {N n t : Nat} {m : Option (List Nat × List Nat)} {ops : Array Oper} {l : List Oper} {h : Hp} {K : List V → Hp → Prop} {op : Op} {ty : TypeId} {pos : String} {aft : Array Edge} {gd : Option (Nat × Bool)} {x y z : Operand} {Q : Ex → List V → Hp → Prop} {s : List V} {o e : Nat} {u w : TypeId} {bo : BinOp} {ob : Oper} {c : Code} {ws : List Operand} {ts : Array TypeId} {ps : List (Nat × Operand)} {lo hi : Option Operand} {hj mj : Operand}
theorem isX (k : OpsX P N m ops (ob :: l) s h K) : OpsX P N m ops (ob :: l) s h K := k
theorem isA (k : AB P N c Q s h) : AB P N c Q s h := k
theorem aQB (k : OpsX P N m ops (⟨some t,.call ⟨.builtin .len,ws.toArray,ts⟩,ty,pos,aft,gd⟩ :: l) s h K) : OpsX P N m ops (⟨some t,.call ⟨.builtin .len,ws.toArray,ts⟩,ty,pos,aft,gd⟩ :: l) s h K := k
theorem aRg (k : OpsX P N m ops (⟨some t,.call ⟨.builtin .append,ws.toArray,ts⟩,ty,pos,aft,gd⟩ :: l) s h K) : OpsX P N m ops (⟨some t,.call ⟨.builtin .append,ws.toArray,ts⟩,ty,pos,aft,gd⟩ :: l) s h K := k
theorem aO5 (k : OpsX P N m ops (⟨some t,.move x,ty,pos,aft,gd⟩ :: l) s h K) : OpsX P N m ops (⟨some t,.move x,ty,pos,aft,gd⟩ :: l) s h K := k
theorem aQs (k : OpsX P N m ops (⟨some t,.load u x,ty,pos,aft,gd⟩ :: l) s h K) : OpsX P N m ops (⟨some t,.load u x,ty,pos,aft,gd⟩ :: l) s h K := k
theorem aQV (k : OpsX P N m ops (⟨some t,.binOp bo u x y w,ty,pos,aft,gd⟩ :: l) s h K) : OpsX P N m ops (⟨some t,.binOp bo u x y w,ty,pos,aft,gd⟩ :: l) s h K := k
theorem aR0 (k : OpsX P N m ops (⟨some t,.fieldAddr u x o,ty,pos,aft,gd⟩ :: l) s h K) : OpsX P N m ops (⟨some t,.fieldAddr u x o,ty,pos,aft,gd⟩ :: l) s h K := k
theorem aRa (k : OpsX P N m ops (⟨some t,.assign x,ty,pos,aft,gd⟩ :: l) s h K) : OpsX P N m ops (⟨some t,.assign x,ty,pos,aft,gd⟩ :: l) s h K := k
theorem aSi (k : OpsX P N m ops (⟨some t,.indexAddr u x y,ty,pos,aft,gd⟩ :: l) s h K) : OpsX P N m ops (⟨some t,.indexAddr u x y,ty,pos,aft,gd⟩ :: l) s h K := k
theorem aR3 (k : OpsX P N m ops (⟨none,.store u x y,ty,pos,aft,gd⟩ :: l) s h K) : OpsX P N m ops (⟨none,.store u x y,ty,pos,aft,gd⟩ :: l) s h K := k
theorem aR6 (k : OpsX P N m ops (⟨some t,.alloc e,ty,pos,aft,gd⟩ :: l) s h K) : OpsX P N m ops (⟨some t,.alloc e,ty,pos,aft,gd⟩ :: l) s h K := k
theorem aRK (k : OpsX P N m ops (⟨some t,.buildSlice u o ps.toArray,ty,pos,aft,gd⟩ :: l) s h K) : OpsX P N m ops (⟨some t,.buildSlice u o ps.toArray,ty,pos,aft,gd⟩ :: l) s h K := k
theorem aSf (k : OpsX P N m ops (⟨some t,.slice u x lo hi none,ty,pos,aft,gd⟩ :: l) s h K) : OpsX P N m ops (⟨some t,.slice u x lo hi none,ty,pos,aft,gd⟩ :: l) s h K := k
theorem aSn (k : OpsX P N m ops (⟨some t,.pick x y z,ty,pos,aft,gd⟩ :: l) s h K) : OpsX P N m ops (⟨some t,.pick x y z,ty,pos,aft,gd⟩ :: l) s h K := k
theorem aSo (k : OpsX P N m ops (⟨some t,.nilCheck x,ty,pos,aft,gd⟩ :: l) s h K) : OpsX P N m ops (⟨some t,.nilCheck x,ty,pos,aft,gd⟩ :: l) s h K := k
end
theorem zz {p q : Prop} (k : q) (h : aSt q → p := by (intro kk; (repeat (first | (apply isX; first | ((with_reducible apply aQB); first | (apply xlR; exact rfl; (first | exact True.intro | exact ⟨_,rfl,_,rfl,by assumption⟩)) | (apply xlS; exact rfl; (first | exact True.intro | exact ⟨_,rfl,_,rfl,by assumption⟩)) | (apply xlT; exact rfl; (first | exact True.intro | exact ⟨_,rfl,_,rfl,by assumption⟩))) | ((with_reducible apply aRg); first | (apply xap; exact rfl; exact rfl; exact rfl; (first | exact Sr1.n | (apply Sr1.r; exact (fun _ => rfl)) | (apply Sr1.s; exact rfl; (first | exact rfl | exact (by simp only [b8,b7,List.length_replicate]; done) | exact aZ (by assumption) | exact cB (by assumption)))); (first | exact rfl | exact (by simp only [b8,b7,List.length_replicate]; done) | exact aZ (by assumption) | exact cB (by assumption)); exact rfl; exact rfl; exact rfl; exact rfl; assumption; (repeat (first | exact LSet.z | apply LSet.s)); (repeat (first | exact Snoc.n | apply Snoc.c)); (first | exact (by simp only [List.length_cons,List.length_nil,Nat.zero_add,Nat.reduceAdd] <;> rfl) | exact rfl); (first | exact True.intro | exact ⟨_,rfl,_,rfl,by assumption⟩)) | (apply xan; exact rfl; exact rfl; (first | exact Sr1.n | (apply Sr1.r; exact (fun _ => rfl)) | (apply Sr1.s; exact rfl; (first | exact rfl | exact (by simp only [b8,b7,List.length_replicate]; done) | exact aZ (by assumption) | exact cB (by assumption)))); exact rfl; exact rfl; exact rfl; exact rfl; exact rfl; assumption; (repeat (first | exact Snoc.n | apply Snoc.c)); (repeat (first | exact Snoc.n | apply Snoc.c)); (first | exact (by simp only [List.length_cons,List.length_nil,Nat.zero_add,Nat.reduceAdd] <;> rfl) | exact rfl); (first | exact True.intro | exact ⟨_,rfl,_,rfl,by assumption⟩)) | (apply xaf; exact rfl; exact rfl; exact (fun _ => rfl); (first | exact Sr1.n | (apply Sr1.r; exact (fun _ => rfl)) | (apply Sr1.s; exact rfl; (first | exact rfl | exact (by simp only [b8,b7,List.length_replicate]; done) | exact aZ (by assumption) | exact cB (by assumption)))); (first | exact rfl); exact rfl; exact rfl; exact rfl; exact rfl; exact rfl; assumption; (repeat (first | exact Snoc.n | apply Snoc.c)); (first | exact (by simp only [List.length_cons,List.length_nil,Nat.zero_add,Nat.reduceAdd] <;> rfl) | exact rfl); (first | exact True.intro | exact ⟨_,rfl,_,rfl,by assumption⟩)) | (apply aTs; exact rfl; exact rfl; exact rfl; exact (fun _ => rfl); (first | exact SrK.n | exact SrK.r | (apply SrK.s; exact (fun _ => rfl); exact rfl; (first | exact rfl | exact (by simp only [b8,b7,List.length_replicate]; done) | exact aZ (by assumption) | exact cB (by assumption)))); (first | exact rfl | exact (by simp only [b8,b7,List.length_replicate]; done) | exact aZ (by assumption) | exact cB (by assumption)); exact rfl; exact rfl; exact rfl; exact rfl; exact rfl; assumption; (repeat (first | exact LSet.z | apply LSet.s)); (repeat (first | exact Snoc.n | apply Snoc.c)); (first | exact (by simp only [List.length_cons,List.length_nil,Nat.zero_add,Nat.reduceAdd] <;> rfl) | exact rfl); (first | exact True.intro | exact ⟨_,rfl,_,rfl,by assumption⟩)) | (apply xanK; exact rfl; exact rfl; (first | exact SrK.n | exact SrK.r | (apply SrK.s; exact (fun _ => rfl); exact rfl; (first | exact rfl | exact (by simp only [b8,b7,List.length_replicate]; done) | exact aZ (by assumption) | exact cB (by assumption)))); exact rfl; exact rfl; exact rfl; exact rfl; exact rfl; exact rfl; assumption; (repeat (first | exact Snoc.n | apply Snoc.c)); (repeat (first | exact Snoc.n | apply Snoc.c)); (first | exact (by simp only [List.length_cons,List.length_nil,Nat.zero_add,Nat.reduceAdd] <;> rfl) | exact rfl); (first | exact True.intro | exact ⟨_,rfl,_,rfl,by assumption⟩))) | ((with_reducible apply aO5); first | (apply xmc; (first | exact OfC.i | exact OfC.b | exact OfC.l | exact OfC.s | exact OfC.p); (first | exact True.intro | exact ⟨_,rfl,_,rfl,by assumption⟩)) | (apply xm; exact rfl; (first | exact True.intro | exact ⟨_,rfl,_,rfl,by assumption⟩))) | ((with_reducible apply aQs); first | (apply xl1; exact rfl; exact rfl; exact rfl; exact rfl; (first | exact True.intro | exact ⟨_,rfl,_,rfl,by assumption⟩)) | (apply aSB; exact rfl; exact rfl; (first | assumption | exact pK (by assumption)); exact rfl; (first | exact True.intro | exact ⟨_,rfl,_,rfl,by assumption⟩)) | (apply xlX; exact rfl; exact rfl; exact rfl; (first | assumption | exact pK (by assumption)); (first | exact True.intro | exact ⟨_,rfl,_,rfl,by assumption⟩)) | (apply xlN; exact rfl; exact rfl; (first | exact Tak.w rfl | (repeat (first | exact Tak.d | (apply Tak.t; (first | exact IsA.c | exact IsA.a4 | exact IsA.a32 | exact IsA.a8 | exact IsA.a20 | exact IsA.a64); exact rfl) | (apply Tak.s; (first | exact IsA.c | exact IsA.a4 | exact IsA.a32 | exact IsA.a8 | exact IsA.a20 | exact IsA.a64); exact rfl)))); (first | exact True.intro | exact ⟨_,rfl,_,rfl,by assumption⟩)) | (apply aSA; exact rfl; (first | assumption | exact pK (by assumption)); exact rfl; (first | exact Tak.w rfl | (repeat (first | exact Tak.d | (apply Tak.t; (first | exact IsA.c | exact IsA.a4 | exact IsA.a32 | exact IsA.a8 | exact IsA.a20 | exact IsA.a64); exact rfl) | (apply Tak.s; (first | exact IsA.c | exact IsA.a4 | exact IsA.a32 | exact IsA.a8 | exact IsA.a20 | exact IsA.a64); exact rfl)))); (first | exact True.intro | exact ⟨_,rfl,_,rfl,by assumption⟩)) | (apply xlB; exact rfl; exact rfl; exact rfl; (first | exact rfl | exact (by simp only [b8,b7,List.length_replicate]; done) | exact aZ (by assumption) | exact cB (by assumption)); (first | exact True.intro | exact ⟨_,rfl,_,rfl,by assumption⟩)) | (apply xlA; exact rfl; exact rfl; (first | exact Tak.w rfl | (repeat (first | exact Tak.d | (apply Tak.t; (first | exact IsA.c | exact IsA.a4 | exact IsA.a32 | exact IsA.a8 | exact IsA.a20 | exact IsA.a64); exact rfl) | (apply Tak.s; (first | exact IsA.c | exact IsA.a4 | exact IsA.a32 | exact IsA.a8 | exact IsA.a20 | exact IsA.a64); exact rfl)))); (first | (apply ArM.a32; (first | exact rfl | exact (by simp only [b8,b7,List.length_replicate]; done) | exact aZ (by assumption) | exact cB (by assumption))) | (apply ArM.a4; (first | exact rfl | exact (by simp only [b8,b7,List.length_replicate]; done) | exact aZ (by assumption) | exact cB (by assumption))) | (apply ArM.a8; (first | exact rfl | exact (by simp only [b8,b7,List.length_replicate]; done) | exact aZ (by assumption) | exact cB (by assumption))) | (apply ArM.a20; (first | exact rfl | exact (by simp only [b8,b7,List.length_replicate]; done) | exact aZ (by assumption) | exact cB (by assumption))) | (apply ArM.a64; (first | exact rfl | exact (by simp only [b8,b7,List.length_replicate]; done) | exact aZ (by assumption) | exact cB (by assumption)))); (first | exact True.intro | exact ⟨_,rfl,_,rfl,by assumption⟩)) | (apply xleA; exact rfl; (first | assumption | exact pK (by assumption)); exact rfl; (first | exact Tak.w rfl | (repeat (first | exact Tak.d | (apply Tak.t; (first | exact IsA.c | exact IsA.a4 | exact IsA.a32 | exact IsA.a8 | exact IsA.a20 | exact IsA.a64); exact rfl) | (apply Tak.s; (first | exact IsA.c | exact IsA.a4 | exact IsA.a32 | exact IsA.a8 | exact IsA.a20 | exact IsA.a64); exact rfl)))); (first | (apply ArM.a32; (first | exact rfl | exact (by simp only [b8,b7,List.length_replicate]; done) | exact aZ (by assumption) | exact cB (by assumption))) | (apply ArM.a4; (first | exact rfl | exact (by simp only [b8,b7,List.length_replicate]; done) | exact aZ (by assumption) | exact cB (by assumption))) | (apply ArM.a8; (first | exact rfl | exact (by simp only [b8,b7,List.length_replicate]; done) | exact aZ (by assumption) | exact cB (by assumption))) | (apply ArM.a20; (first | exact rfl | exact (by simp only [b8,b7,List.length_replicate]; done) | exact aZ (by assumption) | exact cB (by assumption))) | (apply ArM.a64; (first | exact rfl | exact (by simp only [b8,b7,List.length_replicate]; done) | exact aZ (by assumption) | exact cB (by assumption)))); (first | exact True.intro | exact ⟨_,rfl,_,rfl,by assumption⟩))) | ((with_reducible apply aQV); first | (apply xb; exact rfl; exact rfl; exact rfl; (first | exact True.intro | exact ⟨_,rfl,_,rfl,by assumption⟩)) | (apply aSu; exact rfl; exact rfl; assumption; (first | exact True.intro | exact ⟨_,rfl,_,rfl,by assumption⟩)) | (apply aTu; exact rfl; exact rfl; assumption; (first | exact True.intro | exact ⟨_,rfl,_,rfl,by assumption⟩)) | (apply aTm; exact rfl; exact rfl; (first | assumption | exact rfl); (first | exact True.intro | exact ⟨_,rfl,_,rfl,by assumption⟩)) | (apply aTD; exact rfl; exact rfl; (first | assumption | exact rfl); (first | exact True.intro | exact ⟨_,rfl,_,rfl,by assumption⟩)) | (apply xeA; exact rfl; exact rfl; exact rfl; (first | exact rfl | exact (by simp only [b8,b7,List.length_replicate]; done) | exact aZ (by assumption) | exact cB (by assumption)); (first | exact rfl | exact (by simp only [b8,b7,List.length_replicate]; done) | exact aZ (by assumption) | exact cB (by assumption)); (first | exact True.intro | exact ⟨_,rfl,_,rfl,by assumption⟩)) | (apply xnA; exact rfl; exact rfl; exact rfl; (first | exact rfl | exact (by simp only [b8,b7,List.length_replicate]; done) | exact aZ (by assumption) | exact cB (by assumption)); (first | exact rfl | exact (by simp only [b8,b7,List.length_replicate]; done) | exact aZ (by assumption) | exact cB (by assumption)); (first | exact True.intro | exact ⟨_,rfl,_,rfl,by assumption⟩))) | ((with_reducible apply aR0); first | (apply xfp; exact rfl; (first | (with_reducible exact Nat.zero_add _) | exact rfl); (first | exact True.intro | exact ⟨_,rfl,_,rfl,by assumption⟩)) | (apply xfe; exact rfl; (first | (with_reducible exact Nat.zero_add _) | exact rfl); (first | exact True.intro | exact ⟨_,rfl,_,rfl,by assumption⟩))) | ((with_reducible apply aRa); first | (apply xac; (first | exact OfC.i | exact OfC.b | exact OfC.l | exact OfC.s | exact OfC.p); (first | exact True.intro | exact ⟨_,rfl,_,rfl,by assumption⟩)) | (apply xa; exact rfl; (first | exact True.intro | exact ⟨_,rfl,_,rfl,by assumption⟩))) | (apply xe; exact rfl; exact rfl; (first | exact True.intro | exact ⟨_,rfl,_,rfl,by assumption⟩)) | ((with_reducible apply aSi); first | (apply xiR; exact rfl; exact rfl; exact rfl; (first | assumption | exact pK (by assumption)); (first | exact True.intro | exact ⟨_,rfl,_,rfl,by assumption⟩)) | (apply xiS; exact rfl; exact rfl; exact rfl; (first | assumption | exact pK (by assumption)); (first | exact rfl | exact (by simp only [b8,b7,List.length_replicate]; done) | exact aZ (by assumption) | exact cB (by assumption)); exact rfl; (first | exact True.intro | exact ⟨_,rfl,_,rfl,by assumption⟩)) | (apply xiB; exact rfl; exact rfl; exact rfl; assumption; exact rfl; (first | exact True.intro | exact ⟨_,rfl,_,rfl,by assumption⟩)) | (apply xiK; exact rfl; exact rfl; exact rfl; (first | assumption | exact pK (by assumption)); (first | exact rfl | exact (by simp only [b8,b7,List.length_replicate]; done) | exact aZ (by assumption) | exact cB (by assumption)); exact rfl; (first | exact True.intro | exact ⟨_,rfl,_,rfl,by assumption⟩))) | (apply xci; exact rfl; (first | exact True.intro | exact ⟨_,rfl,_,rfl,by assumption⟩)) | ((with_reducible apply aR3); first | (apply xsA; exact rfl; exact rfl; exact rfl; exact rfl; exact (fun _ => rfl); (first | exact rfl | exact (by simp only [b8,b7,List.length_replicate]; done) | exact aZ (by assumption) | exact cB (by assumption)); (first | exact rfl | exact (by simp only [b8,b7,List.length_replicate]; done) | exact aZ (by assumption) | exact cB (by assumption)); (repeat (first | exact LSet.z | apply LSet.s)); (first | exact True.intro | exact ⟨_,rfl,_,rfl,by assumption⟩)) | (apply xs; exact rfl; exact rfl; exact rfl; (first | exact Cel.a rfl | exact Cel.o rfl rfl | exact Cel.m (fun _ => rfl)); exact rfl; exact rfl; (first | exact Spl.w rfl | (repeat (first | exact Spl.d | (apply Spl.p; (first | exact IsA.c | exact IsA.a4 | exact IsA.a32 | exact IsA.a8 | exact IsA.a20 | exact IsA.a64); (first | exact IsA.c | exact IsA.a4 | exact IsA.a32 | exact IsA.a8 | exact IsA.a20 | exact IsA.a64)) | (apply Spl.s; (first | exact IsA.c | exact IsA.a4 | exact IsA.a32 | exact IsA.a8 | exact IsA.a20 | exact IsA.a64); exact rfl)))); (repeat (first | exact LSet.z | apply LSet.s)); (first | exact True.intro | exact ⟨_,rfl,_,rfl,by assumption⟩)) | (apply xsX; exact rfl; exact rfl; exact rfl; exact rfl; (first | assumption | exact pK (by assumption)); exact rfl; exact rfl; (repeat (first | exact LSet.z | apply LSet.s)); (first | exact True.intro | exact ⟨_,rfl,_,rfl,by assumption⟩))) | ((with_reducible apply aR6); first | (apply aSY; exact rfl; (repeat (first | exact Snoc.n | apply Snoc.c)); (first | exact (by simp only [List.length_cons,List.length_nil,Nat.zero_add,Nat.reduceAdd] <;> rfl) | exact rfl); (first | exact True.intro | exact ⟨_,rfl,_,rfl,by assumption⟩)) | (apply xal; (first | (apply Zro.o; (first | exact OfC.i | exact OfC.b | exact OfC.l | exact OfC.s | exact OfC.p)) | (apply Zro.a; repeat (first | exact OfCs.n | (apply OfCs.c; (first | exact OfC.i | exact OfC.b | exact OfC.l | exact OfC.s | exact OfC.p))))); (repeat (first | exact Snoc.n | apply Snoc.c)); (first | exact (by simp only [List.length_cons,List.length_nil,Nat.zero_add,Nat.reduceAdd] <;> rfl) | exact rfl); (first | exact True.intro | exact ⟨_,rfl,_,rfl,by assumption⟩))) | (apply xbx; exact rfl; (first | exact Cel.a rfl | exact Cel.o rfl rfl | exact Cel.m (fun _ => rfl)); (repeat (first | exact Snoc.n | apply Snoc.c)); (first | exact (by simp only [List.length_cons,List.length_nil,Nat.zero_add,Nat.reduceAdd] <;> rfl) | exact rfl); (first | exact True.intro | exact ⟨_,rfl,_,rfl,by assumption⟩)) | ((with_reducible apply aRK); first | (apply aSV; exact rfl; (repeat (first | exact NumK.n | apply NumK.c)); exact rfl; exact rfl; exact rfl; exact rfl; (repeat (first | exact Snoc.n | apply Snoc.c)); (first | exact (by simp only [List.length_cons,List.length_nil,Nat.zero_add,Nat.reduceAdd] <;> rfl) | exact rfl); (first | exact True.intro | exact ⟨_,rfl,_,rfl,by assumption⟩)) | (apply aTt; exact rfl; (repeat (first | exact NumR.n | apply NumR.z | apply NumR.c)); exact rfl; exact rfl; exact rfl; exact rfl; (repeat (first | exact Snoc.n | apply Snoc.c)); (first | exact (by simp only [List.length_cons,List.length_nil,Nat.zero_add,Nat.reduceAdd] <;> rfl) | exact rfl); (first | exact True.intro | exact ⟨_,rfl,_,rfl,by assumption⟩)) | (apply aSX; exact rfl; (repeat (first | exact NumB.n | apply NumB.c)); exact rfl; exact rfl; exact rfl; exact rfl; (repeat (first | exact Snoc.n | apply Snoc.c)); (first | exact (by simp only [List.length_cons,List.length_nil,Nat.zero_add,Nat.reduceAdd] <;> rfl) | exact rfl); (first | exact True.intro | exact ⟨_,rfl,_,rfl,by assumption⟩))) | ((with_reducible apply is_sm); first | (apply xsM; exact rfl; exact rfl; exact rfl; exact rfl; exact rfl; assumption; exact rfl; (first | exact True.intro | exact ⟨_,rfl,_,rfl,by assumption⟩))) | ((with_reducible apply aSf); first | (apply xsR; exact rfl; exact rfl; exact rfl; exact rfl; exact rfl; assumption; exact rfl; exact rfl; (first | exact True.intro | exact ⟨_,rfl,_,rfl,by assumption⟩)) | (apply xsL; exact rfl; exact rfl; exact rfl; exact rfl; (first | exact rfl | exact (by simp only [b8,b7,List.length_replicate]; done) | exact aZ (by assumption) | exact cB (by assumption)); exact rfl; exact rfl; (first | exact True.intro | exact ⟨_,rfl,_,rfl,by assumption⟩)) | (apply xsE; exact rfl; exact rfl; exact rfl; (first | exact rfl | exact (by simp only [b8,b7,List.length_replicate]; done) | exact aZ (by assumption) | exact cB (by assumption)); exact rfl; (first | exact True.intro | exact ⟨_,rfl,_,rfl,by assumption⟩))) | (apply xno; exact rfl; (first | exact True.intro | exact ⟨_,rfl,_,rfl,by assumption⟩)) | (apply xbd; exact rfl; (first | (apply Zro.o; (first | exact OfC.i | exact OfC.b | exact OfC.l | exact OfC.s | exact OfC.p)) | (apply Zro.a; repeat (first | exact OfCs.n | (apply OfCs.c; (first | exact OfC.i | exact OfC.b | exact OfC.l | exact OfC.s | exact OfC.p))))); (repeat (first | exact Fil.n | (apply Fil.c; exact rfl; (first | exact Cel.a rfl | exact Cel.o rfl rfl | exact Cel.m (fun _ => rfl)); exact rfl; exact rfl; (first | exact Spl.w rfl | (repeat (first | exact Spl.d | (apply Spl.p; (first | exact IsA.c | exact IsA.a4 | exact IsA.a32 | exact IsA.a8 | exact IsA.a20 | exact IsA.a64); (first | exact IsA.c | exact IsA.a4 | exact IsA.a32 | exact IsA.a8 | exact IsA.a20 | exact IsA.a64)) | (apply Spl.s; (first | exact IsA.c | exact IsA.a4 | exact IsA.a32 | exact IsA.a8 | exact IsA.a20 | exact IsA.a64); exact rfl))))))); (first | exact True.intro | exact ⟨_,rfl,_,rfl,by assumption⟩)) | (apply xfd; exact rfl; exact rfl; exact rfl; exact rfl; (first | exact True.intro | exact ⟨_,rfl,_,rfl,by assumption⟩)) | ((with_reducible apply aSn); first | (apply xpT; exact rfl; (first | assumption | exact rfl); exact rfl; (first | exact True.intro | exact ⟨_,rfl,_,rfl,by assumption⟩)) | (apply xpF; exact rfl; (first | assumption | exact rfl); exact rfl; (first | exact True.intro | exact ⟨_,rfl,_,rfl,by assumption⟩))) | ((with_reducible apply aSo); first | (apply xnp; exact rfl; (first | exact True.intro | exact ⟨_,rfl,_,rfl,by assumption⟩)) | (apply xne; exact rfl; (first | exact True.intro | exact ⟨_,rfl,_,rfl,by assumption⟩))) | (apply xVv; exact rfl; exact rfl) | (apply xXx; exact rfl; exact rfl; assumption)) | apply OpsX.nil | ((with_reducible apply isA); first | ((with_reducible apply xqn); exact rfl) | (with_reducible apply AB.skip) | ((with_reducible apply xrn); exact rfl) | (with_reducible apply AB.ret) | (with_reducible apply AB.exit)) | (with_reducible apply Ex.then_mk) | (with_reducible apply Ex.inBlock_mk) | (with_reducible apply Ex.then_exit_mk) | (with_reducible apply Ex.inBlock_same_mk) | ((with_reducible apply Ex.inBlock_other_mk); exact rfl) | (with_reducible apply Ex.then_ret_mk) | (with_reducible apply Ex.inBlock_ret_mk))); exact kk.1)) : p := h ⟨k⟩
theorem Conv.ptr {α : Type} {E : α → V} {l : List α} {h h' : Hp} (hs : Sub h h') {b : Nat} {e : TypeId} (hb : h[b]? = some (some ⟨e,l.map E⟩)) (hb' : h'[b]? = some none) (hsh : ∀ x,(E x).shut = true) (hn : 0 < l.length) : Conv h h' (.ptr b 0) (.eptr [.agg (l.map E)] 0 0) := by
 intro A M w v H hv
 obtain ⟨hone,_⟩ := H.blk b _ hb
 unfold VR at hv ⊢
 obtain ⟨g,sh,hm,rfl,hshp⟩ := hv
 obtain ⟨_,⟨hm',_⟩ | ⟨g',aX,hm',hA,_⟩⟩ := H.blk b _ hb
 ·rw [hm] at hm'; cases hm'
 rw [hm] at hm'
 injection hm' with hm'
 injection hm' with hm'
 subst hm'
 obtain ⟨vs,hvs,hl⟩ := aDp H hb hm hshp 0
 rw [List.drop_zero] at hvs
 have hX : ¬ Xs A M h' g := by
  rintro (ha | ⟨c,C,hc,hmc⟩)
  ·exact hA ha
  ·obtain ⟨C',hc'⟩ := hs c C hc
   have := H.inj c b C' _ g hc' hb hmc hm
   subst this
   rw [hb'] at hc; cases hc
 have hc2 : VCells (Xs A M h') [] w (l.map E) vs := VCells.mk hvs.len fun i c u hc hu => by
  obtain ⟨u',hu',hr⟩ := hvs.get hc
  rw [hu] at hu'
  injection hu' with hu'
  subst hu'
  have : c.shut = true := by
   rw [List.getElem?_map] at hc
   cases hq : l[i]? with
   | none => rw [hq] at hc; cases hc
   | some y => rw [hq] at hc; injection hc with hc; subst hc; exact hsh y
  exact (hr.shut this).avoid (fun _ _ hx => hs.xs hx)
 refine ⟨⟨g,0,none⟩,l.length, ?_,hn,fun _ => hX,rfl, ?_, ?_⟩
 ·simp [Addr.add]
 ·intro e' he'
  rw [List.mem_singleton] at he'
  subst he'
  simp only [V.okElem,V.flatOk,V.cells,Bool.and_eq_true,beq_iff_eq,List.length_map,and_true]
  exact List.all_eq_true.2 hone
 ·unfold VRow
  refine ⟨⟨.agg vs.toArray,by unfold VR; exact ⟨vs,rfl,hc2⟩, ?_, ?_⟩,by unfold VRow; trivial⟩
  ·show vs.toArray.size = l.length
   rw [List.size_toArray,← hvs.len,List.length_map]
  ·exact hl
inductive PCv (h h' : Hp) : List (Nat × V) → List (Nat × V) → Prop
 | n : PCv h h' [] []
 | s {t : Nat} {x : V} {fr fr' : List (Nat × V)} : PCv h h' fr fr' → PCv h h' ((t,x) :: fr) ((t,x) :: fr')
 | r {t b q : Nat} {e : TypeId} {cs : List V} {ag : Bool} {fr fr' : List (Nat × V)} : h[b]? = some (some ⟨e,cs⟩) → h'[b]? = some none → cs.all V.shut = true → q = cs.length → PCv h h' fr fr' → PCv h h' ((t,.sl b 0 q 1 ag) :: fr) ((t,.row none 1 cs) :: fr')
 | p {α : Type} {E : α → V} {l : List α} {t b : Nat} {e : TypeId} {fr fr' : List (Nat × V)} : h[b]? = some (some ⟨e,l.map E⟩) → h'[b]? = some none → (∀ x,(E x).shut = true) → Nat.ble 1 l.length = true → PCv h h' fr fr' → PCv h h' ((t,.ptr b 0) :: fr) ((t,.eptr [.agg (l.map E)] 0 0) :: fr')
 | k {α : Type} {C : α → List V} {K : Nat} {l : List α} {t b q : Nat} {e : TypeId} {fr fr' : List (Nat × V)} : h[b]? = some (some ⟨e,l.flatMap C⟩) → h'[b]? = some none → (∀ x,(C x).length = K) → (∀ x,(C x).all V.one = true) → (∀ x,(C x).all V.shut = true) → q = l.length → PCv h h' fr fr' → PCv h h' ((t,.sl b 0 q K true) :: fr) ((t,.row none K (l.map fun x => V.agg (C x))) :: fr')
theorem PCv.get {h h' : Hp} (hs : Sub h h') {fr fr' : List (Nat × V)} (p : PCv h h' fr fr') : ∀ (t : Nat) (y : V),gF fr' t = some y → ∃ x,gF fr t = some x ∧ Conv h h' x y := by
 induction p with
 | n => intro t y hy; cases hy
 | @s u x fr fr' _ ih =>
  intro t y hy
  simp only [gF] at hy ⊢
  cases hb : Nat.beq u t with
  | true => rw [hb] at hy; simp only [cond_true,Option.some.injEq] at hy ⊢; subst hy; exact ⟨x,rfl,Conv.same hs⟩
  | false => rw [hb] at hy; exact ih t y hy
 | @r u b q e cs ag fr fr' h1 h2 h3 h4 _ ih =>
  intro t y hy
  simp only [gF] at hy ⊢
  cases hb : Nat.beq u t with
  | true => rw [hb] at hy; simp only [cond_true,Option.some.injEq] at hy ⊢; subst hy; exact ⟨_,rfl,Conv.row hs h1 h2 h3 h4⟩
  | false => rw [hb] at hy; exact ih t y hy
 | @p α E l u b e fr fr' h1 h2 h3 h4 _ ih =>
  intro t y hy
  simp only [gF] at hy ⊢
  cases hb : Nat.beq u t with
  | true => rw [hb] at hy; simp only [cond_true,Option.some.injEq] at hy ⊢; subst hy; exact ⟨_,rfl,Conv.ptr hs h1 h2 h3 (Nat.le_of_ble_eq_true h4)⟩
  | false => rw [hb] at hy; exact ih t y hy
 | @k α C K l u b q e fr fr' h1 h2 h3 h4 h5 h6 _ ih =>
  intro t y hy
  simp only [gF] at hy ⊢
  cases hb : Nat.beq u t with
  | true => rw [hb] at hy; simp only [cond_true,Option.some.injEq] at hy ⊢; subst hy; exact ⟨_,rfl,Conv.rowK h3 h4 h5 hs h1 h2 h6⟩
  | false => rw [hb] at hy; exact ih t y hy
theorem Ghost.fz {N n b : Nat} {fr fr' : List (Nat × V)} {h h' : Hp} (he : h.set b none = h') (hp : PCv h h' fr fr') : Ghost N (aK n fr) h (aK n fr') h' := by
 subst he
 have hg : ∀ {j : Nat} {B : Blk},(h.set b none)[j]? = some (some B) → h[j]? = some (some B) := by
  intro j B hj
  by_cases hij : b = j
  ·subst hij
   rw [List.getElem?_set] at hj
   split at hj
   ·split at hj <;> cases hj
   ·rename_i hne; exact absurd rfl hne
  ·rwa [List.getElem?_set_ne hij] at hj
 have hs : Sub h (h.set b none) := fun j B hj => ⟨B,hg hj⟩
 intro A M a w hN R
 refine ⟨M,rfl,⟨⟨by rw [List.length_set]; exact R.hr.len,R.hr.alt, ?_, ?_,R.hr.glob.avoid fun g _ hx => hx.elim .inl (fun hl => .inr (hs.live hl))⟩, ?_,R.defers⟩,fun g hl => hs.live hl⟩
 ·intro j B hj
  obtain ⟨h1,h2⟩ := R.hr.blk j B (hg hj)
  refine ⟨h1, ?_⟩
  rcases h2 with ⟨hn,hc0⟩ | ⟨g,cs,hgm,hA,hw,hle,hcs⟩
  ·exact .inl ⟨hn,hc0⟩
  ·exact .inr ⟨g,cs,hgm,hA,hw,hle,hcs.avoid (fun g _ hx => hs.xs hx)⟩
 ·intro i j B C g hi hj mi mj
  exact R.hr.inj i j B C g (hg hi) (hg hj) mi mj
 ·exact aE8 R.sr (fun t y hy => by
   obtain ⟨x,hx,hl⟩ := hp.get hs t y hy
   exact ⟨x,hx,fun v hv => hl A M w v R.hr hv⟩)
theorem zv {N n : Nat} {fr fr' : List (Nat × V)} {h h' : Hp} (b : Nat) (he : LSet h b none h' := by (repeat (first | exact LSet.z | apply LSet.s)))
  (hp : PCv h h' fr fr' := by (repeat (first | exact PCv.n | (apply PCv.p; exact rfl; exact rfl; exact (fun _ => rfl); (first | exact rfl | exact aQD (by assumption) rfl | exact arp_pos (by assumption) rfl)) | (apply PCv.r; exact rfl; exact rfl; exact xJ (fun _ => rfl); (first | exact rfl | exact (by rw [List.length_map]; first | exact (aZ (by assumption)).symm | exact (cB (by assumption)).symm) | exact (by simp only [List.length_map,b8,b7]; done))) | (apply PCv.k; exact rfl; exact rfl; exact (fun _ => rfl); exact (fun _ => rfl); exact (fun _ => rfl); (first | exact rfl | exact (by simp only [b8,b7]))) | apply PCv.s))) : Ghost N (aK n fr) h (aK n fr') h' := Ghost.fz he.eq hp
theorem aR8 {vn : Nat → Bool} {f : Nat → Nat} {c d : V} {cs ds : List V} (h : V.le vn c (d.rn f)) (k : V.les vn cs (V.rns f ds)) : V.les vn (c :: cs) (V.rns f (d :: ds)) := by
 simp only [V.rns]; exact V.les_cons h k
theorem lev {p : Prop} (h : p := by (repeat (first | exact V.les_refl _ _ | exact V.les_nil | exact V.le_refl _ _ | exact V.le_nil | exact V.le_row | exact V.le_arr (fun _ => rfl) | exact V.le_virt rfl | exact aC6 (fun _ => rfl) _ | exact aBZ (fun _ => rfl) _ | apply aR8 | apply les_b32 | apply les_b4 | apply les_b8 | apply les_b20 | apply les_b64 | apply le_a | apply le_t | exact (by simp only [b8,b7]; exact V.le_refl _ _)))) : p := h
theorem aIX {p : Prop} (h : p := by first | exact rfl | exact all_map (fun _ => rfl) _ | exact o5 (fun _ => rfl) _) : p := h
theorem qH {N n : Nat} {fr fr' : List (Nat × V)} {h h' : Hp} (σ : List Nat)
  (hf : FLe noN (V.rn (sg σ h.length)) fr fr' := by (repeat (first | exact FLe.nil | refine FLe.same rfl ?_ | refine FLe.le rfl lev ?_)))
  (hh : HLe (sg σ h.length) h σ h' := by (repeat (first | exact HLe.nil | refine HLe.dead ?_ | refine HLe.live rfl lev aIX ?_)))
  (hσ : σ.take N = List.range N := by rfl) (hlt : σ.all (fun b => Nat.blt b h.length) = true := by rfl) (hnd : ndB (lvs σ h') = true := by rfl) : Ghost N (aK n fr) h (aK n fr') h' := Ghost.rn σ hσ hlt hf hh hnd
theorem FLe.mapg {vn : Nat → Bool} {g : V → V} {fr : List (Nat × V)} : ∀ {fr' : List (Nat × V)},FLe vn g fr fr' → FLe vn id fr (fr'.map fun p => (p.1,g p.2))
 | [],_ => FLe.nil
 | (t,y) :: r,h => ⟨h.1,FLe.mapg h.2⟩
theorem aJ2 {g : V → V} : ∀ {fr : List (Nat × V)} {t : Nat} {y : V},gF fr t = some y → gF (fr.map fun p => (p.1,g p.2)) t = some (g y)
 | [],_,_,h => by cases h
 | (u,x) :: r,t,y,h => by
  simp only [gF,List.map_cons] at h ⊢
  cases hb : Nat.beq u t with
  | true => rw [hb] at h; simp only [cond_true,Option.some.injEq] at h ⊢; rw [h]
  | false => rw [hb] at h; exact aJ2 h
theorem FLe.ofmap {g : V → V} {L : List (Nat × V)} : ∀ {fr : List (Nat × V)},(∀ t y,(t,y) ∈ fr → gF L t = some y) → FLe noN g (L.map fun p => (p.1,g p.2)) fr
 | [],_ => FLe.nil
 | (t,y) :: r,h => FLe.same (aJ2 (h t y (by simp))) (FLe.ofmap fun u z hz => h u z (by simp [hz]))
def aEd : List (Nat × V) → List (Nat × V) → Bool
 | _,[] => true
 | L,(t,_) :: r => !((r.map (·.1)).elem t) && aEd L r
theorem aMJ : ∀ {L : List (Nat × V)},aEd L L = true → ∀ t y,(t,y) ∈ L → gF L t = some y := by
 have key : ∀ {K L : List (Nat × V)},aEd K L = true → ∀ t y,(t,y) ∈ L → gF L t = some y := by
  intro K L
  induction L with
  | nil => intro _ t y h; cases h
  | cons p r ih =>
   obtain ⟨u,x⟩ := p
   intro h t y hm
   simp only [aEd,Bool.and_eq_true,Bool.not_eq_true'] at h
   simp only [gF]
   rcases List.mem_cons.1 hm with he | hm
   ·cases he; simp
   ·have : u ≠ t := fun he => by
     subst he
     have h1 : (r.map (·.1)).elem u = true := List.elem_eq_true_of_mem (List.mem_map.2 ⟨_,hm,rfl⟩)
     rw [h1] at h; exact absurd h.1 (by simp)
    have hb : Nat.beq u t = false := by
     cases hb : Nat.beq u t with
     | true => exact absurd (Nat.eq_of_beq_eq_true hb) this
     | false => rfl
    rw [hb]; exact ih h.2 t y hm
 exact fun {L} h => key h
theorem zW {N n : Nat} {fr fr' : List (Nat × V)} {h h' : Hp} (e : TypeId) (σ : List Nat)
  (hf : FLe (fun b => Nat.beq b h.length) (V.rn (sg σ (h ++ [some (Blk.mk e [])]).length)) fr fr' := by (repeat (first | exact FLe.nil | refine FLe.same rfl ?_ | refine FLe.le rfl lev ?_)))
  (h1 : HLv (fun b => Nat.beq b h.length) h h := by (repeat (first | exact HLv.nil | refine HLv.dead ?_ | refine HLv.live (V.les_refl _ _) aIX ?_)))
  (hh : HLe (sg σ (h ++ [some (Blk.mk e [])]).length) (h ++ [some (Blk.mk e [])]) σ h' := by (repeat (first | exact HLe.nil | refine HLe.dead ?_ | refine HLe.live rfl lev aIX ?_)))
  (hσ : σ.take N = List.range N := by rfl) (hlt : σ.all (fun b => Nat.blt b (h ++ [some (Blk.mk e [])]).length) = true := by rfl) (hnd : ndB (lvs σ h') = true := by rfl) (hk : aEd fr' fr' = true := by rfl) : Ghost N (aK n fr) h (aK n fr') h' :=
 Ghost.trans (Ghost.virt e hf.mapg h1) (Ghost.rn σ hσ hlt (FLe.ofmap (aMJ hk)) hh hnd)
section
variable {P : Program} {fn : Func} {n N : Nat} {fr : List (Nat × V)} {s : List V} {h h' : Hp} {r a b c x : V} {o p : Nat} {e : TypeId} {cs ds : List V} {t u w : Nat} {ty : TypeId}
inductive RsV (P : Program) (n : Nat) (fr : List (Nat × V)) (h : Hp) : ResultVar → V → Prop
 | t {t : Nat} {x : V} : bP n fr (.tmp t) = some x → RsV P n fr h (.tmp t) x
 | c {t i o : Nat} {ty : TypeId} {v : V} : bP n fr (.tmp t) = some (.ptr i o) → eX P ty h (.ptr i o) = some v → RsV P n fr h (.cell t ty) v
theorem RsV.eq {q : ResultVar} (hr : RsV P n fr h q x) : lE P (aK n fr) h q = some x := by
 cases hr with
 | t h1 => exact rvT h1
 | c h1 h2 => exact rvC h1 h2
theorem lvN {fs : Array Field} {sz by_ : Nat} {zz : Value} [T : TiC P ty ⟨.struct fs,sz,by_,zz⟩] (hb : h[o]? = some (some ⟨e,cs⟩)) (hc : Tak cs p sz ds) : eX P ty h (.ptr o p) = some (.agg ds) := ldP hb (vI T.h rfl hc.eq.2 hc.eq.1)
theorem lvB {α : Type} {E : α → V} {ml : List α} {N' sz by_ : Nat} {zz : Value} {w : TypeId} [T : TiC P ty ⟨.array N' w,sz,by_,zz⟩] (hb : h[o]? = some (some ⟨e,ml.map E⟩)) (hz : sz = N') (hl : ml.length = N') : eX P ty h (.ptr o 0) = some (.agg (ml.map E)) := xT T.h hz hb hl
theorem fD {q : ResultVar} (hr : fn.results = #[q]) (ha : RsV P n fr h q a) (hg : Ghost N (aK 1 [(0,a)]) h (aK 1 [(0,r)]) h') : aB4 P fn N r h' .ret (aK n fr) h := aAt (aRo hr ha.eq) hg
theorem wM {q q' : ResultVar} (hr : fn.results = #[q,q']) (ha : RsV P n fr h q a) (hb : RsV P n fr h q' b) (hg : Ghost N (aK 1 [(0,.tup [a,b])]) h (aK 1 [(0,r)]) h') : aB4 P fn N r h' .ret (aK n fr) h := aAt (bO hr ha.eq hb.eq) hg
theorem zr3 {q q' q'' : ResultVar} (hr : fn.results = #[q,q',q'']) (ha : RsV P n fr h q a) (hb : RsV P n fr h q' b) (hc : RsV P n fr h q'' c) (hg : Ghost N (aK 1 [(0,.tup [a,b,c])]) h (aK 1 [(0,r)]) h') : aB4 P fn N r h' .ret (aK n fr) h := aAt (tL hr ha.eq hb.eq hc.eq) hg
theorem zn0 (hr : fn.results = #[]) (hg : Ghost N (aK 1 [(0,.tup [])]) h (aK 1 [(0,r)]) h') : aB4 P fn N r h' .normal s h := aML (aSw hr) hg
end
theorem bM {p : Prop} (h : p := by first | exact RsV.t rfl | (apply RsV.c; exact rfl; first | (apply lv1; exact rfl; exact rfl; exact rfl) | (apply lvB; exact rfl; exact rfl; first | exact rfl | exact aZ (by assumption) | exact cB (by assumption)) | (apply lvN; exact rfl; exact Tak.w rfl))) : p := h
end Go.Vm
