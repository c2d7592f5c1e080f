/- Texts of ours, joined: VmCut, VmQ, VmX, VmY, VmZ, Sh, OpenArr, OpenS, Plain1, Plain2, PlainU1. -/
import Derived.Test.YtnllpckhipmpgaaGreatDoorQScriptRuns2
import Derived.Scope
import Derived.OpenShut
set_option linter.unusedSimpArgs false
set_option linter.unusedVariables false
namespace Go.Vm
open Go
def qY {α : Type} (l : List α) (a c : Int) : Option (List α) := if 0 ≤ a ∧ a < c ∧ c ≤ l.length then some ((l.take c.toNat).drop a.toNat) else none
theorem xR {α : Type} {l x : List α} {a c : Int} (h : qY l a c = some x) : 0 ≤ a ∧ a < c ∧ c ≤ l.length ∧ x = (l.take c.toNat).drop a.toNat ∧ x.length = c.toNat - a.toNat := by
 unfold qY at h
 split at h
 ·rename_i hc
  injection h with h
  refine ⟨hc.1,hc.2.1,hc.2.2,h.symm, ?_⟩
  rw [← h,List.length_drop,List.length_take]; omega
 ·cases h
theorem aKk {α : Type} {l x : List α} {a c j : Int} {y : α} (h : qY l a c = some x) (hx : bS x j = some y) : l[a.toNat + j.toNat]? = some y := by
 obtain ⟨_,_,_,e,_⟩ := xR h
 obtain ⟨_,_,h3⟩ := iR hx
 rw [e,List.getElem?_drop,List.getElem?_take] at h3
 split at h3
 ·exact h3
 ·cases h3
section
variable {P : Program} {h h' : Hp} {t e : TypeId} {ti : TI} {α : Type} {E : α → V} {l x m : List α} {sz by_ b : Nat} {z : Value} {ag : Bool} {lo hi : Option V} {a c j : Int} {y : α} {k : IntKind} {N n : Nat} {i q K : Nat}
theorem aNE (hq : l.length = q) (ht : aN P t = some ⟨.slice e,sz,by_,z⟩) (he : aN P e = some ti) (hK : ti.size = K) (h1 : lP lo = some a) (h2 : rP hi q = some c) (hs : qY l a c = some x) : iX P t h (.sl b 0 q K ag) lo hi = some (.sl b (a.toNat * K) x.length K ag) := by
 subst hK hq
 obtain ⟨s1,s2,s3,s4,s5⟩ := xR hs
 simp only [iX,ht,he,h1,h2]
 rw [if_pos ⟨trivial,s1,by omega,s3⟩,s5]
 by_cases h0 : a = 0
 ·subst h0; simp
 ·rw [if_neg h0,if_pos s2,Nat.zero_add]
theorem aD8 (hq : l.length = q) (ht : aN P t = some ⟨.slice e,sz,by_,z⟩) (he : aN P e = some ti) (hK : ti.size = K) (h1 : lP lo = some 0) (h2 : rP hi q = some c) (hs : sub l 0 c = some x) : iX P t h (.sl b 0 q K ag) lo hi = some (.sl b 0 x.length K ag) := by
 subst hK hq
 unfold sub at hs
 split at hs
 ·rename_i hc
  injection hs with hs
  have hl : x.length = c.toNat := by rw [← hs]; simp; omega
  simp only [iX,ht,he,h1,h2]
  rw [if_pos ⟨trivial,by omega,hc.2.1,hc.2.2⟩,if_pos trivial,hl]
 ·cases hs
theorem aGS (ht : aN P t = some ⟨.array N e,sz,by_,z⟩) (he : aN P e = some ti) (hsz : ti.size = 1) (hag : cB ti.desc = ag) (hb : h[b]? = some (some ⟨i,l.map E⟩)) (hl : l.length = N) (hN : N ≤ lE) (h1 : lP lo = some a) (h2 : rP hi N = some c) (hs : qY l a c = some x) : iX P t h (.ptr b 0) lo hi = some (.sl b (a.toNat * 1) x.length 1 ag) := by
 subst hag
 obtain ⟨s1,s2,s3,s4,s5⟩ := xR hs
 simp only [iX,ht,he,h1,h2,hb]
 rw [if_pos ⟨by omega,hN,s1,s2,by omega,by simp [hsz,hl]⟩,hsz,s5,Nat.zero_add]
theorem iaY (hq : x.length = q) (ht : aN P t = some ⟨.slice e,sz,by_,z⟩) (he : aN P e = some ti) (hK : ti.size = 1) (hx : bS x j = some y) : f5 P t (.sl b (a.toNat * 1) q 1 ag) (.sc (.int k j)) = some (.ptr b (a.toNat + j.toNat)) := by
 obtain ⟨h2,h3,_⟩ := iR hx
 subst hq
 simp [f5,ht,nT,he,hK,h2,h3]
theorem ldY (ht : aN P t = some ti) (hd : cB ti.desc = false) (hb : h[b]? = some (some ⟨i,l.map E⟩)) (hs : qY l a c = some x) (hx : bS x j = some y) : d9 P t h (.ptr b (a.toNat + j.toNat)) = some (E y) := by
 have h3 := aKk hs hx
 simp [d9,hb,fY,ht,hd,h3]
theorem apS (ht : aN P t = some ⟨.array N e,sz,by_,z⟩) (hN : 0 < N) (hq : x.length = q) (hx : oS N x = some m) : yZ P t (.sl b n q 1 ag) = some (.ptr b n) := by
 unfold oS at hx
 split at hx
 ·rename_i hl
  simp only [yZ,ht]
  rw [if_pos ⟨hN,by omega⟩]
 ·cases hx
theorem aI3 (ht : aN P t = some ⟨.array N e,sz,by_,z⟩) (hsz : sz = N) (hb : h[b]? = some (some ⟨i,l.map E⟩)) (hs : qY l a c = some x) (hx : oS N x = some m) : d9 P t h (.ptr b (a.toNat * 1)) = some (.agg (m.map E)) := by
 subst hsz
 obtain ⟨s1,s2,s3,s4,s5⟩ := xR hs
 unfold oS at hx
 split at hx
 ·rename_i hl
  injection hx with hx
  simp only [d9,hb,fY,ht,cB,if_true,Nat.mul_one]
  have hlen : sz ≤ ((l.map E).drop a.toNat).length := by simp; omega
  rw [if_pos hlen]
  congr 2
  rw [← hx,s4,List.map_take,List.map_drop,List.map_take,List.drop_take,List.take_take,Nat.min_eq_left (by omega)]
 ·cases hx
theorem aNM (hb : h[b]? = some (some ⟨i,l.map E⟩)) (hE : ∀ x,(E x).one = true) (hs : qY l a c = some x) : fK h 1 (.sl b (a.toNat * 1) x.length 1 ag) = some (x.map E,x.length) := by
 obtain ⟨s1,s2,s3,s4,s5⟩ := xR hs
 simp only [fK,hb,Nat.mul_one]
 rw [if_pos (by simp; omega)]
 simp only [Option.some.injEq,Prod.mk.injEq,and_true]
 rw [s5,s4,List.map_drop,List.map_take,List.drop_take]
end
theorem Ghost.cut {N n : Nat} {fr : List (Nat × V)} {h : Hp} {b e t q K k : Nat} {ag : Bool} {cs : List V} (hl : bI n fr (.tmp t) = some (.sl b 0 q K ag)) (hb : h[b]? = some (some ⟨e,cs⟩)) : Ghost N (aE n fr) h (aE n fr) (h.set b (some ⟨e,cs.take k⟩)) := by
 intro A M a w hN R
 have hbl : b < h.length := (List.getElem?_eq_some_iff.1 hb).1
 have hget : ∀ {j : Nat} {B : Blk},(h.set b (some ⟨e,cs.take k⟩))[j]? = some (some B) → (j = b ∧ B = ⟨e,cs.take k⟩) ∨ (h[j]? = some (some B) ∧ j ≠ b) := by
  intro j B hj
  by_cases hij : b = j
  ·subst hij
   rw [List.getElem?_set_self hbl] at hj
   exact .inl ⟨rfl,(Option.some.inj (Option.some.inj hj)).symm⟩
  ·rw [List.getElem?_set_ne hij] at hj
   exact .inr ⟨hj,fun hh => hij hh.symm⟩
 have hlive : ∀ g,dA M (h.set b (some ⟨e,cs.take k⟩)) g → dA M h g := by
  rintro g ⟨j,B,hj,hm⟩
  rcases hget hj with ⟨rfl,_⟩ | ⟨h1,_⟩
  ·exact ⟨j,_,hb,hm⟩
  ·exact ⟨j,B,h1,hm⟩
 have hX : ∀ g,Xs A M (h.set b (some ⟨e,cs.take k⟩)) g → Xs A M h g := fun g hx => hx.elim .inl (fun hl => .inr (hlive g hl))
 refine ⟨M,rfl,⟨⟨by rw [R.hr.len,List.length_set],R.hr.alt, ?_, ?_,R.hr.glob.avoid fun g _ hx => hX g hx⟩,⟨R.sr.len,fun t x hx => (R.sr.val t x hx).avoid (fun g _ hx => hX g hx)⟩,R.defers⟩,hlive⟩
 ·intro j B hj
  rcases hget hj with ⟨rfl,rfl⟩ | ⟨h1,hne⟩
  ·obtain ⟨hone,hcase⟩ := R.hr.blk j _ hb
   refine ⟨fun c hc => hone c (List.mem_of_mem_take hc), ?_⟩
   rcases hcase with ⟨hn,hc0⟩ | ⟨g,ds,hg,hA,hw,hle,hcs⟩
   ·simp only at hc0
    subst hc0
    exact .inl ⟨hn,by simp⟩
   ·refine .inr ⟨g,ds,hg,hA, ?_,by simp only [List.length_take] at hle ⊢; omega, ?_⟩
    ·rcases hw with hw | ⟨es,clock,hm,hok,heq⟩
     ·exact .inl hw
     ·exfalso
      have hev := cJ hl
      simp only [ev] at hev
      have hv := R.sr.val t (.sl j 0 q K ag) hev
      unfold VR at hv
      rcases hv with ⟨hm0,_⟩ | ⟨g',cap,e',sz,hm',_,_,_,_,hshp,_⟩
      ·rw [hg] at hm0; cases hm0
      ·rw [hg] at hm'
       obtain rfl := Option.some.inj (Option.some.inj hm')
       unfold World.shape? at hshp
       rw [hm] at hshp
       cases hshp
    ·have := hcs.take k
     rw [List.take_take] at this
     simp only [List.length_take]
     exact this.avoid (fun g _ hx => hX g hx)
  ·obtain ⟨hone,hcase⟩ := R.hr.blk j B h1
   refine ⟨hone, ?_⟩
   rcases hcase with hn | ⟨g,ds,hg,hA,hw,hle,hcs⟩
   ·exact .inl hn
   ·exact .inr ⟨g,ds,hg,hA,hw,hle,hcs.avoid (fun g _ hx => hX g hx)⟩
 ·intro i j B C g hi hj mi mj
  have f : ∀ {j : Nat} {B : Blk},(h.set b (some ⟨e,cs.take k⟩))[j]? = some (some B) → ∃ B0,h[j]? = some (some B0) := by
   intro j B hj
   rcases hget hj with ⟨e1,_⟩ | ⟨e1,_⟩
   ·exact ⟨_,by rw [e1]; exact hb⟩
   ·exact ⟨_,e1⟩
  obtain ⟨B1,h1⟩ := f hi
  obtain ⟨C1,k1⟩ := f hj
  exact R.hr.inj i j B1 C1 g h1 k1 mi mj
section
variable {N n b e t q K : Nat} {fr : List (Nat × V)} {h h' : Hp} {ag : Bool} {α : Type} {E : α → V} {C : α → List V} {l x : List α} {c : Int}
theorem aNX {α : Type} {l : List α} : sub l 0 0 = some [] := by
 unfold sub
 rw [if_pos ⟨Int.le_refl _,Int.le_refl _,by omega⟩]
 rfl
theorem Ghost.cutM (hl : bI n fr (.tmp t) = some (.sl b 0 q 1 ag)) (hb : h[b]? = some (some ⟨e,l.map E⟩)) (hs : sub l 0 c = some x) (hh : h.set b (some ⟨e,x.map E⟩) = h') : Ghost N (aE n fr) h (aE n fr) h' := by
 subst hh
 unfold sub at hs
 split at hs
 ·injection hs with hs
  have : x.map E = (l.map E).take c.toNat := by rw [← hs,← List.map_take]; simp
  rw [this]
  exact Ghost.cut hl hb
 ·cases hs
theorem Ghost.cutF (hC : ∀ x,(C x).length = K) (hl : bI n fr (.tmp t) = some (.sl b 0 q K ag)) (hb : h[b]? = some (some ⟨e,l.flatMap C⟩)) (hs : sub l 0 c = some x) (hh : h.set b (some ⟨e,x.flatMap C⟩) = h') : Ghost N (aE n fr) h (aE n fr) h' := by
 subst hh
 unfold sub at hs
 split at hs
 ·injection hs with hs
  have : x.flatMap C = (l.flatMap C).take (c.toNat * K) := by rw [← hs]; simp only [Int.toNat_zero,List.drop_zero]; exact (aFM hC _ _).symm
  rw [this]
  exact Ghost.cut hl hb
 ·cases hs
end
abbrev CA4 (E : Int → V) (x : List Int) : List V := cA E x []
abbrev aBE (E : Int → V) (x : List Int) : List V := bL E x []
@[simp] theorem pB {f : Nat → Nat} {k : IntKind} (l : List (List Int)) : V.rns f (l.flatMap (CA4 (eI k))) = l.flatMap (CA4 (eI k)) := i8 (fun _ => rfl) l
@[simp] theorem mH {f : Nat → Nat} {k : IntKind} (l : List (List Int)) : V.rns f (l.flatMap (aBE (eI k))) = l.flatMap (aBE (eI k)) := i8 (fun _ => rfl) l
theorem aKg {k : IntKind} (l : List Int) : V.softA (.agg (l.map (eI k))) = .agg (l.map (eI k)) := by
 simp only [V.softA,List.map_map]
 rfl
theorem aN2 {P : Program} {t : TypeId} {n : Nat} {ps ps' : List (Nat × V)} {h : Hp} {r : V × Hp} (e : ps = ps') (hb : iI P t n ps' h = some r) : iI P t n ps h = some r := by rw [e]; exact hb
theorem Conv.rowKA {C : List Int → List V} {E : Int → V} {K : Nat} {l : List (List Int)} (hC : ∀ x,(C x).length = K) (h1K : ∀ x,(C x).all V.one = true) (hsh : ∀ x,(C x).all V.shut = true) (hcx : ∀ x ∈ l,C x = x.map E) {h h' : Hp} (hs : Sub h h') {b n : Nat} {e : TypeId} (hb : h[b]? = some (some ⟨e,l.flatMap C⟩)) (hb' : h'[b]? = some none) (hn : n = l.length) : Conv h h' (.sl b 0 n K true) (.row none K (l.map (eA E))) := by
 have := Conv.rowK hC h1K hsh hs hb hb' hn
 rwa [show (l.map fun x => V.agg (C x)) = l.map (eA E) from List.map_congr_left fun x hx => by rw [hcx x hx]] at this
theorem AB.scope {P : Program} {N : Nat} {Q : Ex → List V → Hp → Prop} {s : List V} {h : Hp} {c : Code} (hh : AB P N c Q s h) : AB P N (.scope c) Q s h := by
 intro A M0 M h0 w0 a w hN hM G R
 refine wp_scope_straight (Code.wp_mono (fun e a' w' ⟨x,s1,h1,M1,he,hq,G1,R1⟩ => ?_) (hh A M0 M h0 w0 a w hN hM G R))
 subst he
 cases x with
 | normal => exact ⟨.normal,s1,h1,M1,rfl,hq,G1,R1⟩
 | exit i => exact ⟨.exit i,s1,h1,M1,rfl,hq,G1,R1⟩
 | ret => exact ⟨.ret,s1,h1,M1,rfl,hq,G1,R1⟩
theorem AB.label {P : Program} {N : Nat} {Q : Ex → List V → Hp → Prop} {s : List V} {h : Hp} {l : Nat} (hq : Q .normal s h) : AB P N (.label l) Q s h := by
 intro A M0 M h0 w0 a w hN hM G R
 exact wp_label ⟨.normal,s,h,M,rfl,hq,G,R⟩
def oU (x y c : Int) : Option (Int × Int) := if c.toNat ≤ 1 then some ((((x.toNat + y.toNat + c.toNat) % 18446744073709551616 : Nat) : Int),(((x.toNat + y.toNat + c.toNat) / 18446744073709551616 : Nat) : Int)) else none
def aBl (x y c : Int) : Option (Int × Int) := if c.toNat ≤ 1 then some ((((x.toNat + 18446744073709551616 - y.toNat - c.toNat) % 18446744073709551616 : Nat) : Int),((if x.toNat < y.toNat + c.toNat then 1 else 0 : Nat) : Int)) else none
def aNO : Array Value → Sem Value := (Extern.MathBitsCarry.rows.get ⟨0,by decide⟩).2
def aNP : Array Value → Sem Value := (Extern.MathBitsCarry.rows.get ⟨1,by decide⟩).2
theorem aKh {P : Program} {f : FuncId} {fn : Func} (hf : P.funcs[f]? = some fn) (hn : (fn.name == "runtime.NumGoroutine") = false) (hb : fn.body.isNone = true) (h1 : Extern.findNext fn = none) (h2 : Extern.find fn = some aNO) {x y c : Int} {r : Int × Int} (hr : oU x y c = some r) : Fn P f [] [eI .u64 x,eI .u64 y,eI .u64 c] (.tup [eI .u64 r.1,eI .u64 r.2]) [] := by
 unfold oU at hr
 split at hr
 ·rename_i hc
  injection hr with hr
  subst hr
  refine aJE hf hn hb h1 h2 fun X M w vs hv => ?_
  unfold VCells at hv
  obtain ⟨v,rest,rfl,hv,hr⟩ := hv
  unfold VCells at hr
  obtain ⟨u,rest,rfl,hu,hr⟩ := hr
  unfold VCells at hr
  obtain ⟨z,rest,rfl,hz,hr⟩ := hr
  unfold VCells at hr
  subst hr
  unfold VR at hv hu hz
  subst hv hu hz
  have hgt : ¬ c.toNat > 1 := by omega
  refine ⟨.tuple #[.int .u64 (((x.toNat + y.toNat + c.toNat) % 18446744073709551616 : Nat) : Int),.int .u64 (((x.toNat + y.toNat + c.toNat) / 18446744073709551616 : Nat) : Int)], ?_, ?_⟩
  ·match c,hgt with
   | .ofNat 0,_ => rfl
   | .ofNat 1,_ => rfl
   | .ofNat (k + 2),hgt => exact absurd (show (Int.ofNat (k + 2)).toNat > 1 by simp; omega) hgt
   | .negSucc k,_ => rfl
  ·unfold VR
   exact ⟨_,rfl,by unfold VCells; exact ⟨_,_,rfl,by unfold VR; rfl,by unfold VCells; exact ⟨_,_,rfl,by unfold VR; rfl,by unfold VCells; rfl⟩⟩⟩
 ·cases hr
theorem aKP {P : Program} {f : FuncId} {fn : Func} (hf : P.funcs[f]? = some fn) (hn : (fn.name == "runtime.NumGoroutine") = false) (hb : fn.body.isNone = true) (h1 : Extern.findNext fn = none) (h2 : Extern.find fn = some aNP) {x y c : Int} {r : Int × Int} (hr : aBl x y c = some r) : Fn P f [] [eI .u64 x,eI .u64 y,eI .u64 c] (.tup [eI .u64 r.1,eI .u64 r.2]) [] := by
 unfold aBl at hr
 split at hr
 ·rename_i hc
  injection hr with hr
  subst hr
  refine aJE hf hn hb h1 h2 fun X M w vs hv => ?_
  unfold VCells at hv
  obtain ⟨v,rest,rfl,hv,hr⟩ := hv
  unfold VCells at hr
  obtain ⟨u,rest,rfl,hu,hr⟩ := hr
  unfold VCells at hr
  obtain ⟨z,rest,rfl,hz,hr⟩ := hr
  unfold VCells at hr
  subst hr
  unfold VR at hv hu hz
  subst hv hu hz
  have hgt : ¬ c.toNat > 1 := by omega
  refine ⟨.tuple #[.int .u64 (((x.toNat + 18446744073709551616 - y.toNat - c.toNat) % 18446744073709551616 : Nat) : Int),.int .u64 ((if x.toNat < y.toNat + c.toNat then 1 else 0 : Nat) : Int)], ?_, ?_⟩
  ·match c,hgt with
   | .ofNat 0,_ => rfl
   | .ofNat 1,_ => rfl
   | .ofNat (k + 2),hgt => exact absurd (show (Int.ofNat (k + 2)).toNat > 1 by simp; omega) hgt
   | .negSucc k,_ => rfl
  ·unfold VR
   exact ⟨_,rfl,by unfold VCells; exact ⟨_,_,rfl,by unfold VR; rfl,by unfold VCells; exact ⟨_,_,rfl,by unfold VR; rfl,by unfold VCells; rfl⟩⟩⟩
 ·cases hr
theorem sj {α : Type} {a b : α} (h : some a = some b) : a = b := Option.some.inj h
section
variable {P : Program} {ops : Array Oper} {l : List Oper} {n N : Nat} {fr : List (Nat × V)} {h h' h1 : Hp} {K : List V → Hp → Prop} {op : Op} {ty : TypeId} {pos : String} {aft : Array Edge} {t : Nat} {v c d : V} {x y z : Operand} {Q : Ex → List V → Hp → Prop} {ty' u : TypeId}
variable {j w : Nat} {want b : Bool}
theorem zg (hc : b = want) (hd : bF P O0 ⟨some t,op,ty,pos,aft,some (j,want)⟩ (aE n fr) h = some (v,h')) (q : OpsW P N ops l (aE n ((t,v) :: fr)) h' K) (hj : (ops[j]?).bind (·.dst) = some w := by rfl) (hl : bI n fr (.tmp w) = some (.sc (.bool b)) := by rfl) : OpsW P N ops (⟨some t,op,ty,pos,aft,some (j,want)⟩ :: l) (aE n fr) h K := wS (svG hj hl hc hd) q
theorem zk {co : Operand} {X Y : Code} {α : Type} {A B : Option α} {r : α} (hr : (if b = true then A else B) = some r) (hc : bI n fr co = some (.sc (.bool b))) (g1 : b = true → A = some r → AB P N X Q (aE n fr) h) (g2 : b = false → B = some r → AB P N Y Q (aE n fr) h) : AB P N (.cond co X Y) Q (aE n fr) h := AB.cnd hc (fun e => g1 e (cV hr e)) (fun e => g2 e (cU hr e))
theorem zf {f : FuncId} {fn : Func} {co : Code} {args : List V} {r : V} (hf : P.funcs[f]? = some fn) (hnt : fn.ntmps = n) (hh : AB P N co (z4 P fn N r h') (aE n fr) h) (hb : fn.body = some co := by rfl) (hn : (fn.name == "runtime.NumGoroutine") = false := by kernel_rfl) (hal : args.length ≤ n := by exact zl) (hN : h.length = N := by rfl) (hfr : num 0 args = fr := by (simp only [num,Nat.reduceAdd,Nat.zero_add] <;> rfl)) : Fn P f h args r h' := aOq hf hb hn hnt hal hN hfr hh
variable {F G : FuncId → Bool} {m : Nat} {listed : Array Bool} {s : List V} {o : Oper} {s1 : List V}
end
section
variable {P : Program} {fn : Func} {n N : Nat} {fr : List (Nat × V)} {h h' : Hp} {r a b c : V} {t u w : Nat}
theorem bH (hr : fn.results = #[.tmp t]) (σ : List Nat) (hx : bI n fr (.tmp t) = some a := by rfl) (hf : FLe v9 (V.rn (sg σ h.length)) [(0,a)] [(0,r)] := by repeat (first | exact FLe.nil | refine FLe.same rfl ?_ | refine FLe.le rfl V.le_nil ?_ | refine FLe.le rfl V.le_row ?_ | refine FLe.le rfl (V.le_arr (fun _ => rfl)) ?_)) (hh : HLe (sg σ h.length) h σ h' := by repeat (first | exact HLe.nil | refine HLe.dead ?_ | refine HLe.live rfl V.les_nil rfl ?_ | refine HLe.live rfl (aA0 (fun _ => rfl) _) (all_map (fun _ => rfl) _) ?_ | refine HLe.live rfl (aAe (fun _ => rfl) _) (mQ (fun _ => rfl) _) ?_ | refine HLe.live rfl (V.les_refl _ _) rfl ?_)) (hσ : σ.take N = List.range N := by rfl) (hlt : σ.all (fun b => Nat.blt b h.length) = true := by rfl) (hnd : ndB (lvs σ h') = true := by rfl) : z4 P fn N r h' .ret (aE n fr) h := wB (aNy hr (rvT hx)) (Ghost.rn σ hσ hlt hf hh hnd)
theorem v5 (hr : fn.results = #[.tmp t,.tmp u]) (σ : List Nat) (hx : bI n fr (.tmp t) = some a := by rfl) (hy : bI n fr (.tmp u) = some b := by rfl) (hf : FLe v9 (V.rn (sg σ h.length)) [(0,(.tup [a,b]))] [(0,r)] := by repeat (first | exact FLe.nil | refine FLe.same rfl ?_ | refine FLe.le rfl V.le_nil ?_ | refine FLe.le rfl V.le_row ?_ | refine FLe.le rfl (V.le_arr (fun _ => rfl)) ?_)) (hh : HLe (sg σ h.length) h σ h' := by repeat (first | exact HLe.nil | refine HLe.dead ?_ | refine HLe.live rfl V.les_nil rfl ?_ | refine HLe.live rfl (aA0 (fun _ => rfl) _) (all_map (fun _ => rfl) _) ?_ | refine HLe.live rfl (aAe (fun _ => rfl) _) (mQ (fun _ => rfl) _) ?_ | refine HLe.live rfl (V.les_refl _ _) rfl ?_)) (hσ : σ.take N = List.range N := by rfl) (hlt : σ.all (fun b => Nat.blt b h.length) = true := by rfl) (hnd : ndB (lvs σ h') = true := by rfl) : z4 P fn N r h' .ret (aE n fr) h := wB (a9 hr (rvT hx) (rvT hy)) (Ghost.rn σ hσ hlt hf hh hnd)
theorem zd3 (hr : fn.results = #[.tmp t,.tmp u,.tmp w]) (σ : List Nat) (hx : bI n fr (.tmp t) = some a := by rfl) (hy : bI n fr (.tmp u) = some b := by rfl) (hz : bI n fr (.tmp w) = some c := by rfl) (hf : FLe v9 (V.rn (sg σ h.length)) [(0,(.tup [a,b,c]))] [(0,r)] := by repeat (first | exact FLe.nil | refine FLe.same rfl ?_ | refine FLe.le rfl V.le_nil ?_ | refine FLe.le rfl V.le_row ?_ | refine FLe.le rfl (V.le_arr (fun _ => rfl)) ?_)) (hh : HLe (sg σ h.length) h σ h' := by repeat (first | exact HLe.nil | refine HLe.dead ?_ | refine HLe.live rfl V.les_nil rfl ?_ | refine HLe.live rfl (aA0 (fun _ => rfl) _) (all_map (fun _ => rfl) _) ?_ | refine HLe.live rfl (aAe (fun _ => rfl) _) (mQ (fun _ => rfl) _) ?_ | refine HLe.live rfl (V.les_refl _ _) rfl ?_)) (hσ : σ.take N = List.range N := by rfl) (hlt : σ.all (fun b => Nat.blt b h.length) = true := by rfl) (hnd : ndB (lvs σ h') = true := by rfl) : z4 P fn N r h' .ret (aE n fr) h := wB (tH hr (rvT hx) (rvT hy) (rvT hz)) (Ghost.rn σ hσ hlt hf hh hnd)
end
def OpsG (P : Program) (F G : FuncId → Bool) (ops : Array Oper) : List Oper → List V → Hp → (List V → Hp → Prop) → Prop
 | [],s,h,K => K s h
 | o :: l,s,h,K => ∃ s1 h1,StepR P F G ops o s h s1 h1 ∧ OpsG P F G ops l s1 h1 K
def OpsX (P : Program) (N : Nat) (m : Option (List Nat × List Nat)) (ops : Array Oper) (l : List Oper) (s : List V) (h : Hp) (K : List V → Hp → Prop) : Prop :=
 match m with
 | none => OpsW P N ops l s h K
 | some (F,G) => OpsG P (eC F) (eC G) ops l s h K
def aEd (l : List Oper) : List Nat → List Oper
 | [] => []
 | i :: s => match l[i]? with
  | some o => o :: aEd l s
  | none => []
def aBX (F G : FuncId → Bool) (ops : Array Oper) : List Nat → Array Bool → Bool
 | [],_ => true
 | i :: s,L => aE5 F G ops L i && (ops.toList[i]?).isSome && aBX F G ops s (L.setIfInBounds i true)
def aA6 : List Nat → Array Bool → Array Bool
 | [],L => L
 | i :: s,L => aA6 s (L.setIfInBounds i true)
theorem aAM {P : Program} {N : Nat} {F G : FuncId → Bool} {ops : Array Oper} {K : List V → Hp → Prop} {m : Nat} : ∀ (sc : List Nat) (L : Array Bool) (s : List V) (h : Hp),aBX F G ops sc L = true →
  OpsG P F G ops (aEd ops.toList sc) s h (fun s h => DrawG P N F G ops m (aA6 sc L) s h K) → DrawG P N F G ops (m + sc.length) L s h K
 | [],L,s,h,_,hk => hk
 | i :: sc,L,s,h,hb,hk => by
  simp only [aBX,Bool.and_eq_true] at hb
  obtain ⟨⟨h1,h2⟩,h3⟩ := hb
  obtain ⟨o,ho⟩ := Option.isSome_iff_exists.1 h2
  simp only [aEd,ho] at hk
  obtain ⟨s1,g1,e,hk⟩ := hk
  refine DrawG.pick h1 (o := o) (by simpa using ho) e ?_
  exact aAM sc _ s1 g1 h3 hk
def aCo (F G : FuncId → Bool) (ops : Array Oper) : List (List Nat) → Array Bool → Bool
 | [],L => (aAo ops.size L).isEmpty
 | [a],L => aBX F G ops a L && (aAo ops.size (aA6 a L)).isEmpty
 | a :: b :: ss,L => aBX F G ops a L && aGy ops (aA6 a L) && !b.isEmpty && aCo F G ops (b :: ss) (aA6 a L)
def aKl (P : Program) (N : Nat) (F G : List Nat) (ops : Array Oper) : List (List Nat) → List V → Hp → (List V → Hp → Prop) → Prop
 | [],s,h,K => K s h
 | [a],s,h,K => OpsX P N (some (F,G)) ops (aEd ops.toList a) s h K
 | a :: b :: ss,s,h,K => OpsX P N (some (F,G)) ops (aEd ops.toList a) s h (fun s h => ∃ s' h',Ghost N s h s' h' ∧ aKl P N F G ops (b :: ss) s' h' K)
theorem OpsG.mono {P : Program} {F G : FuncId → Bool} {ops : Array Oper} {K K' : List V → Hp → Prop} : ∀ {l : List Oper} {s : List V} {h : Hp},OpsG P F G ops l s h K → (∀ s h,K s h → K' s h) → OpsG P F G ops l s h K'
 | [],_,_,hk,hm => hm _ _ hk
 | _ :: _,_,_,⟨s1,h1,e,hk⟩,hm => ⟨s1,h1,e,hk.mono hm⟩
theorem aB4 {P : Program} {N : Nat} {F G : List Nat} {ops : Array Oper} {K : List V → Hp → Prop} : ∀ (ss : List (List Nat)) (L : Array Bool) (s : List V) (h : Hp),aCo (eC F) (eC G) ops ss L = true →
  aKl P N F G ops ss s h K → DrawG P N (eC F) (eC G) ops (ss.map List.length).sum L s h K
 | [],L,s,h,hb,hk => DrawG.nil (List.isEmpty_iff.1 hb) hk
 | [a],L,s,h,hb,hk => by
  simp only [aCo,Bool.and_eq_true] at hb
  have := aAM (N := N) (m := 0) a L s h hb.1 (OpsG.mono (K' := fun s h => DrawG P N (eC F) (eC G) ops 0 (aA6 a L) s h K) hk fun s h hk => DrawG.nil (List.isEmpty_iff.1 hb.2) hk)
  simpa using this
 | a :: b :: ss,L,s,h,hb,hk => by
  simp only [aCo,Bool.and_eq_true] at hb
  obtain ⟨⟨⟨h1,h2⟩,h3⟩,h4⟩ := hb
  have := aAM (N := N) (m := ((b :: ss).map List.length).sum) a L s h h1 (OpsG.mono (K' := fun s h => DrawG P N (eC F) (eC G) ops ((b :: ss).map List.length).sum (aA6 a L) s h K) hk fun s h ⟨s',h',hg,hk⟩ => by
   have hd := aB4 (b :: ss) _ s' h' h4 hk
   obtain ⟨x,xs,rfl⟩ : ∃ x xs,b = x :: xs := by
    cases b with
    | nil => cases h3
    | cons x xs => exact ⟨x,xs,rfl⟩
   simp only [List.map_cons,List.length_cons,List.sum_cons,Nat.add_right_comm _ 1] at hd ⊢
   exact DrawG.gh h2 hg hd)
  simpa [Nat.add_comm] using this
theorem AB.rs {P : Program} {N : Nat} {Q : Ex → List V → Hp → Prop} {s : List V} {h : Hp} (hm : P.follows .mixedOrders = true) (F G : List Nat) (ss : List (List Nat)) {id : Nat} {l : List Oper} (hr : aKl P N F G l.toArray ss s h (Q .normal))
  (hb : (aCo (eC F) (eC G) l.toArray ss (Array.replicate l.toArray.size false) && (ss.map List.length).sum == l.toArray.size) = true := by decide +kernel) : AB P N (.region id l.toArray true) Q s h := by
 simp only [Bool.and_eq_true,beq_iff_eq] at hb
 refine AB.rd (eC F) (eC G) hm ?_
 have := aB4 ss _ s h hb.1 hr
 rw [hb.2] at this
 exact this
section
variable {P : Program} {N n t : Nat} {m : Option (List Nat × List Nat)} {ops : Array Oper} {l : List Oper} {fr : List (Nat × V)} {h h' : Hp} {K : List V → Hp → Prop} {op : Op} {ty : TypeId} {pos : String} {aft : Array Edge} {gd : Option (Nat × Bool)} {v a b : V} {x y z : Operand} {Q : Ex → List V → Hp → Prop} {s : List V}
theorem OpsX.nil (hk : K s h) : OpsX P N m ops [] s h K := by
 cases m with
 | none => exact OpsW.nil hk
 | some p => exact hk
theorem xS0 (hs : b7 P O0 ops ⟨some t,op,ty,pos,aft,gd⟩ (aE n fr) h = some (v,h')) (k : OpsX P N m ops l (aE n ((t,v) :: fr)) h' K) : OpsX P N m ops (⟨some t,op,ty,pos,aft,gd⟩ :: l) (aE n fr) h K := by
 cases m with
 | none => exact wS hs k
 | some p => exact ⟨_,_,gS hs,k⟩
theorem xN0 (hs : b7 P O0 ops ⟨none,op,ty,pos,aft,gd⟩ (aE n fr) h = some (v,h')) (k : OpsX P N m ops l (aE n fr) h' K) : OpsX P N m ops (⟨none,op,ty,pos,aft,gd⟩ :: l) (aE n fr) h K := by
 cases m with
 | none => exact wN hs k
 | some p => exact ⟨_,_,gN hs,k⟩
theorem xq {c : Code} {id : Nat} (hr : OpsX P N none l.toArray l s h (Ex.then (AB P N c Q) Q .normal)) : AB P N (.seq (.region id l.toArray false) c) Q s h := AB.seq (AB.rw hr)
theorem xr {id : Nat} (hr : OpsX P N none l.toArray l s h (Q .normal)) : AB P N (.region id l.toArray false) Q s h := AB.rw hr
def Gd (ops : Array Oper) (n : Nat) (fr : List (Nat × V)) : Option (Nat × Bool) → Prop
 | none => True
 | some (j,w) => ∃ u,(ops[j]?).bind (·.dst) = some u ∧ ∃ c,bI n fr (.tmp u) = some (.sc (.bool c)) ∧ c = w
theorem Gd.step {dd : Option Tmp} {r : V × Hp} (hg : Gd ops n fr gd) (hd : bF P O0 ⟨dd,op,ty,pos,aft,gd⟩ (aE n fr) h = some r) : b7 P O0 ops ⟨dd,op,ty,pos,aft,gd⟩ (aE n fr) h = some r := by
 obtain ⟨v,h1⟩ := r
 cases gd with
 | none => exact sv hd
 | some p =>
  obtain ⟨j,w⟩ := p
  obtain ⟨u,hu,c,hc,he⟩ := hg
  exact svG hu hc he hd
theorem xS (hd : bF P O0 ⟨some t,op,ty,pos,aft,gd⟩ (aE n fr) h = some (v,h')) (k : OpsX P N m ops l (aE n ((t,v) :: fr)) h' K) (hg : Gd ops n fr gd := by first | exact True.intro | exact ⟨_,rfl,_,rfl,by assumption⟩) : OpsX P N m ops (⟨some t,op,ty,pos,aft,gd⟩ :: l) (aE n fr) h K := xS0 (hg.step hd) k
theorem xN (hd : bF P O0 ⟨none,op,ty,pos,aft,gd⟩ (aE n fr) h = some (v,h')) (k : OpsX P N m ops l (aE n fr) h' K) (hg : Gd ops n fr gd := by first | exact True.intro | exact ⟨_,rfl,_,rfl,by assumption⟩) : OpsX P N m ops (⟨none,op,ty,pos,aft,gd⟩ :: l) (aE n fr) h K := xN0 (hg.step hd) k
theorem xw (hd : bF P O0 ⟨some t,op,ty,pos,aft,none⟩ (aE n fr) h = some (v,h')) (k : OpsX P N m ops l (aE n ((t,v) :: fr)) h' K) : OpsX P N m ops (⟨some t,op,ty,pos,aft,none⟩ :: l) (aE n fr) h K := xS0 (sv hd) k
theorem xy (hd : bF P O0 ⟨none,op,ty,pos,aft,none⟩ (aE n fr) h = some (v,h')) (k : OpsX P N m ops l (aE n fr) h' K) : OpsX P N m ops (⟨none,op,ty,pos,aft,none⟩ :: l) (aE n fr) h K := xN0 (sv hd) k
theorem xC {f : FuncId} {ts : Array TypeId} {ws : List Operand} {xs : List V} (hx : pC n fr ws = some xs) (hc : Fn P f h xs v h') (k : OpsX P N none ops l (aE n ((t,v) :: fr)) h' K) : OpsX P N none ops (⟨some t,.call ⟨.value (.func f),ws.toArray,ts⟩,ty,pos,aft,none⟩ :: l) (aE n fr) h K := wC hx hc k
theorem z8 {f : FuncId} {ts : Array TypeId} {ws : List Operand} {xs : List V} {jj ww : Nat} {want cc : Bool} (hj : (ops[jj]?).bind (·.dst) = some ww) (hl : bI n fr (.tmp ww) = some (.sc (.bool cc))) (hb : cc = want) (hx : pC n fr ws = some xs) (hc : Fn P f h xs v h') (k : OpsX P N none ops l (aE n ((t,v) :: fr)) h' K) : OpsX P N none ops (⟨some t,.call ⟨.value (.func f),ws.toArray,ts⟩,ty,pos,aft,some (jj,want)⟩ :: l) (aE n fr) h K := wCG hj hl hb hx hc k
theorem xG {f : FuncId} {F G : List Nat} {ts : Array TypeId} {ws : List Operand} {xs : List V} (hx : pC n fr ws = some xs) (hc : Fn P f h xs v h') (k : OpsX P N (some (F,G)) ops l (aE n ((t,v) :: fr)) h' K) (hF : eC F f = false := by rfl) (hG : eC G f = true → ∃ news,h' = h ++ news := by first | exact (fun _ => ⟨_,rfl⟩) | exact (fun _ => ⟨[],(List.append_nil _).symm⟩) | exact (fun h => absurd h (by decide))) (hg : Gd ops n fr gd := by first | exact True.intro | exact ⟨_,rfl,_,rfl,by assumption⟩) : OpsX P N (some (F,G)) ops (⟨some t,.call ⟨.value (.func f),ws.toArray,ts⟩,ty,pos,aft,gd⟩ :: l) (aE n fr) h K := by
 refine ⟨_,_,gC hc hF hG ?_,k⟩
 cases gd with
 | none => exact sv (mW hx sP)
 | some p =>
  obtain ⟨j,w⟩ := p
  obtain ⟨u,hu,c,hb,he⟩ := hg
  exact svG hu hb he (mW hx sP)
theorem xU {f : FuncId} {F G : List Nat} {ts : Array TypeId} {ws : List Operand} {xs : List V} (hx : pC n fr ws = some xs) (hc : ∀ h,Fn P f h xs v h) (k : OpsX P N (some (F,G)) ops l (aE n ((t,v) :: fr)) h K) (hG : eC G f = false := by rfl) (hg : Gd ops n fr gd := by first | exact True.intro | exact ⟨_,rfl,_,rfl,by assumption⟩) : OpsX P N (some (F,G)) ops (⟨some t,.call ⟨.value (.func f),ws.toArray,ts⟩,ty,pos,aft,gd⟩ :: l) (aE n fr) h K := by
 refine ⟨_,_,gU hc hG ?_,k⟩
 cases gd with
 | none => exact sv (mW hx r8)
 | some p =>
  obtain ⟨j,w⟩ := p
  obtain ⟨u,hu,c,hb,he⟩ := hg
  exact svG hu hb he (mW hx r8)
variable {j w : Nat} {want c : Bool}
theorem xX (hc : c = !want) (k : OpsX P N m ops l (aE n ((t,.sc undef) :: fr)) h K) (hj : (ops[j]?).bind (·.dst) = some w := by rfl) (hl : bI n fr (.tmp w) = some (.sc (.bool c)) := by rfl) : OpsX P N m ops (⟨some t,op,ty,pos,aft,some (j,want)⟩ :: l) (aE n fr) h K := xS0 (svX hj hl hc) k
theorem xSg (hj : (ops[j]?).bind (·.dst) = some w) (hl : bI n fr (.tmp w) = some (.sc (.bool c))) (hc : c = want) (hd : bF P O0 ⟨some t,op,ty,pos,aft,some (j,want)⟩ (aE n fr) h = some (v,h')) (k : OpsX P N m ops l (aE n ((t,v) :: fr)) h' K) : OpsX P N m ops (⟨some t,op,ty,pos,aft,some (j,want)⟩ :: l) (aE n fr) h K := xS0 (svG hj hl hc hd) k
theorem OpsX.ghost {s' : List V} (hg : Ghost N s h s' h') (k : OpsX P N none ops l s' h' K) : OpsX P N none ops l s h K := OpsW.ghost hg k
end
theorem gD {p : Prop} (h : p := by first | exact True.intro | exact ⟨_,rfl,_,rfl,by assumption⟩) : p := h
inductive LSet {α : Type} : List α → Nat → α → List α → Prop
 | z {a b : α} {l : List α} : LSet (a :: l) 0 b (b :: l)
 | s {a b : α} {l l' : List α} {i : Nat} : LSet l i b l' → LSet (a :: l) (i + 1) b (a :: l')
theorem LSet.eq {α : Type} {l l' : List α} {i : Nat} {b : α} (h : LSet l i b l') : l.set i b = l' := by
 induction h with
 | z => rfl
 | s _ ih => rw [List.set_cons_succ,ih]
inductive Snoc {α : Type} : List α → α → List α → Prop
 | n {b : α} : Snoc [] b [b]
 | c {a b : α} {l l' : List α} : Snoc l b l' → Snoc (a :: l) b (a :: l')
theorem Snoc.eq {α : Type} {l l' : List α} {b : α} (h : Snoc l b l') : l ++ [b] = l' := by
 induction h with
 | n => rfl
 | c _ ih => rw [List.cons_append,ih]
inductive IsA : (List V → List V) → Nat → Prop
 | c {a : V} : IsA (List.cons a) 1
 | a4 {k : IntKind} {q : List Int} : IsA (cA (eI k) q) 4
 | a8 {k : IntKind} {q : List Int} : IsA (ar8 (eI k) q) 8
 | a20 {k : IntKind} {q : List Int} : IsA (aDw (eI k) q) 20
 | a32 {k : IntKind} {q : List Int} : IsA (bL (eI k) q) 32
 | a64 {k : IntKind} {q : List Int} : IsA (aDk (eI k) q) 64
theorem IsA.eq {A : List V → List V} {n : Nat} (h : IsA A n) : ∃ p : List V,p.length = n ∧ ∀ r,A r = p ++ r := by
 cases h with
 | c => exact ⟨[_],rfl,fun _ => rfl⟩
 | a4 => exact ⟨cA _ _ [],rfl,fun _ => rfl⟩
 | a8 => exact ⟨ar8 _ _ [],rfl,fun _ => rfl⟩
 | a20 => exact ⟨aDw _ _ [],rfl,fun _ => rfl⟩
 | a32 => exact ⟨bL _ _ [],rfl,fun _ => rfl⟩
 | a64 => exact ⟨aDk _ _ [],rfl,fun _ => rfl⟩
inductive Spl : List V → Nat → List V → List V → Prop
 | w {l r : List V} : r.length = l.length → Spl l 0 r r
 | d {l : List V} : Spl l 0 [] l
 | p {A B : List V → List V} {n : Nat} {l r l' : List V} : IsA A n → IsA B n → Spl l 0 r l' → Spl (A l) 0 (B r) (B l')
 | s {A : List V → List V} {n : Nat} {l r l' : List V} {o o' : Nat} : IsA A n → o' = o + n → Spl l o r l' → Spl (A l) o' r (A l')
theorem Spl.eq {l r l' : List V} {o : Nat} (h : Spl l o r l') : splice l o r = l' := by
 induction h with
 | w h => simp [splice,h]
 | d => simp [splice]
 | p hA hB _ ih =>
  obtain ⟨p,hp,e⟩ := hA.eq
  obtain ⟨q,hq,e'⟩ := hB.eq
  simp only [splice,List.take_zero,List.nil_append,Nat.zero_add] at ih ⊢
  rw [e,e',e',← ih,List.length_append,hq,← hp,List.drop_append,List.drop_eq_nil_of_le (by omega),List.nil_append,Nat.add_sub_cancel_left,List.append_assoc]
 | @s A n l r l' o o' hA he _ ih =>
  subst he
  obtain ⟨p,hp,e⟩ := hA.eq
  simp only [splice] at ih ⊢
  have h1 : (p ++ l).take (o + n) = p ++ l.take o := by rw [List.take_append,List.take_of_length_le (by omega),show o + n - p.length = o by omega]
  have h2 : (p ++ l).drop (o + n + r.length) = l.drop (o + r.length) := by rw [List.drop_append,List.drop_eq_nil_of_le (by omega),List.nil_append,show o + n + r.length - p.length = o + r.length by omega]
  rw [e,e,h1,h2,← ih,List.append_assoc,List.append_assoc,List.append_assoc]
inductive Tak : List V → Nat → Nat → List V → Prop
 | w {l : List V} {k : Nat} : l.length = k → Tak l 0 k l
 | d {l : List V} : Tak l 0 0 []
 | t {A : List V → List V} {n : Nat} {l r : List V} {k k' : Nat} : IsA A n → k' = k + n → Tak l 0 k r → Tak (A l) 0 k' (A r)
 | s {A : List V → List V} {n : Nat} {l r : List V} {o o' k : Nat} : IsA A n → o' = o + n → Tak l o k r → Tak (A l) o' k r
theorem Tak.eq {l r : List V} {o k : Nat} (h : Tak l o k r) : (l.drop o).take k = r ∧ k ≤ (l.drop o).length := by
 induction h with
 | w h => subst h; exact ⟨by simp,by simp⟩
 | d => exact ⟨rfl,Nat.zero_le _⟩
 | t hA he _ ih =>
  subst he
  obtain ⟨p,hp,e⟩ := hA.eq
  simp only [List.drop_zero] at ih ⊢
  rw [e,e,List.take_append,List.take_of_length_le (by omega),hp,Nat.add_sub_cancel,ih.1,List.length_append,hp]
  exact ⟨rfl,by omega⟩
 | @s A n l r o o' k hA he _ ih =>
  subst he
  obtain ⟨p,hp,e⟩ := hA.eq
  have h1 : (p ++ l).drop (o + n) = l.drop o := by rw [List.drop_append,List.drop_eq_nil_of_le (by omega),List.nil_append,show o + n - p.length = o by omega]
  rw [e,h1]
  exact ih
inductive OfC : Value → V → Prop
 | i {k : IntKind} {x : Int} : OfC (.int k x) (eI k x)
 | b {x : Bool} : OfC (.bool x) (eB x)
 | s {x : ByteArray} : OfC (.string x) (eS x)
 | l : OfC (.slice none 0 0) (.row (some true) 1 [])
 | p : OfC (.pointer none) (.sc (.pointer none))
theorem OfC.eq {v : Value} {a : V} (h : OfC v a) : dO v = a := by cases h <;> rfl
theorem OfC.eq' {v : Value} {a : V} (h : OfC v a) : ofValue v = a := by cases h <;> rfl
theorem OfC.one {v : Value} {a : V} (h : OfC v a) : a.one = true ∧ v.cells = #[v] := by cases h <;> exact ⟨rfl,rfl⟩
inductive OfCs : List Value → List V → Prop
 | n : OfCs [] []
 | c {v : Value} {a : V} {vs : List Value} {as_ : List V} : OfC v a → OfCs vs as_ → OfCs (v :: vs) (a :: as_)
theorem OfCs.eq {vs : List Value} {as_ : List V} (h : OfCs vs as_) : vs.map dO = as_ := by
 induction h with
 | n => rfl
 | c h _ ih => rw [List.map_cons,h.eq,ih]
theorem OfCs.one {vs : List Value} {as_ : List V} (h : OfCs vs as_) : as_.all V.one = true := by
 induction h with
 | n => rfl
 | c h _ ih => rw [List.all_cons,h.one.1,ih]; rfl
inductive Zro : Value → List V → Prop
 | a {vs : List Value} {cs : List V} : OfCs vs cs → Zro (.agg vs.toArray) cs
 | o {v : Value} {a : V} : OfC v a → Zro v [a]
theorem Zro.eq {v : Value} {cs : List V} (h : Zro v cs) : v.cells.toList.map dO = cs ∧ cs.all V.one = true := by
 cases h with
 | a h => exact ⟨h.eq,h.one⟩
 | o h => rw [h.one.2]; exact ⟨by simp [h.eq],by simp [h.one.1]⟩
inductive Cel : V → List V → Prop
 | a {cs : List V} : cs.all V.one = true → Cel (.agg cs) cs
 | o {x : V} : x.one = true → x.cells = [x] → Cel x [x]
 | m {α : Type} {E : α → V} {q : List α} : (∀ x,(E x).one = true) → Cel (.agg (q.map E)) (q.map E)
theorem Cel.eq {x : V} {cs : List V} (h : Cel x cs) : x.cells = cs ∧ x.flatOk = true := by
 cases h with
 | a h => exact ⟨rfl,h⟩
 | o h1 h2 => exact ⟨h2,by simp [V.flatOk,h2,h1]⟩
 | m h => exact ⟨rfl,aN7 h⟩
inductive Fil (pl : Array (Nat × Nat)) : List V → List (Nat × V) → List V → Prop
 | n {cs : List V} : Fil pl cs [] cs
 | c {cs ds es fs : List V} {i o k : Nat} {x : V} {ps : List (Nat × V)} : pl[i]? = some (o,k) → Cel x ds → ds.length = k → Nat.ble (o + k) cs.length = true → Spl cs o ds es → Fil pl es ps fs → Fil pl cs ((i,x) :: ps) fs
theorem Fil.eq {pl : Array (Nat × Nat)} {cs fs : List V} {ps : List (Nat × V)} (h : Fil pl cs ps fs) : mZ (fun i => pl[i]?) cs ps = some fs := by
 induction h with
 | n => rfl
 | c h1 h2 h3 h4 h5 _ ih =>
  simp only [mZ,h1]
  rw [if_pos ⟨h2.eq.2,by rw [h2.eq.1,h3],Nat.le_of_ble_eq_true h4⟩,h2.eq.1,h5.eq,ih]
class TiC (P : Program) (t : TypeId) (d : outParam TI) : Prop where
 h : aN P t = some d
class FaC (P : Program) (t : TypeId) (f : Nat) (k : outParam Nat) : Prop where
 p : ∀ b off,aU P t (.ptr b off) f = some (.ptr b (off + k))
 e : ∀ es i off,aU P t (.eptr es i off) f = some (.eptr es i (off + k))
class NoA (P : Program) (t : TypeId) : Prop where
 h : True
class PlC (P : Program) (t : TypeId) (pl : outParam (Array (Nat × Nat))) : Prop where
 h : oN P t = some pl
def aK6 (op : BinOp) (k : IntKind) (a b : Int) : Option V := match op with
 | .add => some (eI k (k.wrap (a + b)))
 | .sub => some (eI k (k.wrap (a - b)))
 | .mul => some (eI k (k.wrap (a * b)))
 | .and => some (eI k (bits .and k a b))
 | .or => some (eI k (bits .or k a b))
 | .xor => some (eI k (bits .xor k a b))
 | .eql => some (eB (a == b))
 | .neq => some (eB (a != b))
 | .lss => some (eB (decide (a < b)))
 | .leq => some (eB (decide (a ≤ b)))
 | .gtr => some (eB (decide (b < a)))
 | .geq => some (eB (decide (b ≤ a)))
 | _ => none
theorem aL9 {P : Program} {op : BinOp} {t : TypeId} {x y : Operand} {k : IntKind} {a b : Int} {v : V} (h : aK6 op k a b = some v) : dR P op t x y (eI k a) (eI k b) = some v := by
 cases op <;> simp only [aK6,Option.some.injEq,reduceCtorEq] at h <;> subst h
 ·exact aL2 ..
 ·exact aLV ..
 ·exact aMK ..
 ·exact aMM ..
 ·exact aNN ..
 ·exact aMj ..
 ·exact aLE ..
 ·exact aIa ..
 ·exact aMC ..
 ·exact aMF ..
 ·exact aMh ..
 ·exact aMQ ..
section
variable {P : Program} {N n t : Nat} {m : Option (List Nat × List Nat)} {ops : Array Oper} {l : List Oper} {fr : List (Nat × V)} {h h' : Hp} {K : List V → Hp → Prop} {op : Op} {ty : TypeId} {pos : String} {aft : Array Edge} {gd : Option (Nat × Bool)} {v a b : V} {x y z : Operand} {Q : Ex → List V → Hp → Prop} {s : List V} {k : IntKind} {i j : Int} {o e : Nat} {cs ds : List V} {ti di : TI} {u w : TypeId} {bo : BinOp} {p q : Nat} {c : Bool}
theorem xm (hx : bI n fr x = some a) (hg : Gd ops n fr gd) (q : OpsX P N m ops l (aE n ((t,a) :: fr)) h K) : OpsX P N m ops (⟨some t,.move x,ty,pos,aft,gd⟩ :: l) (aE n fr) h K := xS (j8 hx) q hg
theorem xa (hx : bI n fr x = some a) (hg : Gd ops n fr gd) (q : OpsX P N m ops l (aE n ((t,a) :: fr)) h K) : OpsX P N m ops (⟨some t,.assign x,ty,pos,aft,gd⟩ :: l) (aE n fr) h K := xS (pY hx) q hg
theorem xmc {v : Value} (hv : OfC v a) (hg : Gd ops n fr gd) (q : OpsX P N m ops l (aE n ((t,a) :: fr)) h K) : OpsX P N m ops (⟨some t,.move (.const v),ty,pos,aft,gd⟩ :: l) (aE n fr) h K := xm (by rw [← hv.eq']; rfl) hg q
theorem xac {v : Value} (hv : OfC v a) (hg : Gd ops n fr gd) (q : OpsX P N m ops l (aE n ((t,a) :: fr)) h K) : OpsX P N m ops (⟨some t,.assign (.const v),ty,pos,aft,gd⟩ :: l) (aE n fr) h K := xa (by rw [← hv.eq']; rfl) hg q
theorem xb (hx : bI n fr x = some (eI k i)) (hy : bI n fr y = some (eI k j)) (hv : aK6 bo k i j = some v) (hg : Gd ops n fr gd) (q : OpsX P N m ops l (aE n ((t,v) :: fr)) h K) : OpsX P N m ops (⟨some t,.binOp bo u x y w,ty,pos,aft,gd⟩ :: l) (aE n fr) h K := xS (xE hx hy (aL9 hv)) q hg
theorem xno (hx : bI n fr x = some (eB c)) (hg : Gd ops n fr gd) (q : OpsX P N m ops l (aE n ((t,eB (!c)) :: fr)) h K) : OpsX P N m ops (⟨some t,.unOp .not u x,ty,pos,aft,gd⟩ :: l) (aE n fr) h K := xS (aGP hx (aNd _ _)) q hg
theorem xci {sz by_ : Nat} {zz : Value} {k' : IntKind} [D : TiC P u di] [T : TiC P w ⟨.int k',sz,by_,zz⟩] (hx : bI n fr x = some (eI k i)) (hg : Gd ops n fr gd) (q : OpsX P N m ops l (aE n ((t,eI k' (k'.wrap i)) :: fr)) h K) : OpsX P N m ops (⟨some t,.convert u w x,ty,pos,aft,gd⟩ :: l) (aE n fr) h K := xS (f6 hx (eV _ ⟨_,D.h⟩ T.h rfl)) q hg
theorem xlR {α : Type} {E : α → V} {nl : Option Bool} {ml : List α} {sz by_ : Nat} {zz : Value} [T : TiC P u ⟨.slice e,sz,by_,zz⟩] (hx : bI n fr x = some (.row nl o (ml.map E))) (hg : Gd ops n fr gd) (q : OpsX P N m ops l (aE n ((t,eI .i64 (ml.length : Int)) :: fr)) h K) : OpsX P N m ops (⟨some t,.call ⟨.builtin .len,#[x],#[u]⟩,ty,pos,aft,gd⟩ :: l) (aE n fr) h K := xS (aLy hx (aOQ T.h)) q hg
theorem xlS {sz by_ : Nat} {zz : Value} {ag : Bool} [T : TiC P u ⟨.slice e,sz,by_,zz⟩] (hx : bI n fr x = some (.sl o p q w ag)) (hg : Gd ops n fr gd) (kk : OpsX P N m ops l (aE n ((t,eI .i64 (q : Int)) :: fr)) h K) : OpsX P N m ops (⟨some t,.call ⟨.builtin .len,#[x],#[u]⟩,ty,pos,aft,gd⟩ :: l) (aE n fr) h K := xS (aLy hx (aOS T.h)) kk hg
theorem xe {vs : List V} (hx : bI n fr x = some (.tup vs)) (hv : vs[o]? = some v) (hg : Gd ops n fr gd) (q : OpsX P N m ops l (aE n ((t,v) :: fr)) h K) : OpsX P N m ops (⟨some t,.extract x o,ty,pos,aft,gd⟩ :: l) (aE n fr) h K := xS (aCC hx hv) q hg
theorem xfp {f kk r : Nat} [F : FaC P u f kk] (hx : bI n fr x = some (.ptr o p)) (hr : p + kk = r) (hg : Gd ops n fr gd) (q : OpsX P N m ops l (aE n ((t,.ptr o r) :: fr)) h K) : OpsX P N m ops (⟨some t,.fieldAddr u x f,ty,pos,aft,gd⟩ :: l) (aE n fr) h K := xS (lI hx (hr ▸ F.p _ _)) q hg
theorem xfe {f kk r ix : Nat} [F : FaC P u f kk] (hx : bI n fr x = some (.eptr cs ix p)) (hr : p + kk = r) (hg : Gd ops n fr gd) (q : OpsX P N m ops l (aE n ((t,.eptr cs ix r) :: fr)) h K) : OpsX P N m ops (⟨some t,.fieldAddr u x f,ty,pos,aft,gd⟩ :: l) (aE n fr) h K := xS (lI hx (hr ▸ F.e _ _ _)) q hg
theorem xnp (hx : bI n fr x = some (.ptr o p)) (hg : Gd ops n fr gd) (q : OpsX P N m ops l (aE n ((t,.ptr o p) :: fr)) h K) : OpsX P N m ops (⟨some t,.nilCheck x,ty,pos,aft,gd⟩ :: l) (aE n fr) h K := xS (aNk hx) q hg
theorem xl1 [T : TiC P u ti] (hx : bI n fr x = some (.ptr o p)) (hb : h[o]? = some (some ⟨e,cs⟩)) (hc : (cs.drop p).head? = some v) (hd : cB ti.desc = false) (hg : Gd ops n fr gd) (q : OpsX P N m ops l (aE n ((t,v) :: fr)) h K) : OpsX P N m ops (⟨some t,.load u x,ty,pos,aft,gd⟩ :: l) (aE n fr) h K := xS (bO hx (ldP hb (nV T.h hd hc))) q hg
theorem xlN {fs : Array Field} {sz by_ : Nat} {zz : Value} [T : TiC P u ⟨.struct fs,sz,by_,zz⟩] (hx : bI n fr x = some (.ptr o p)) (hb : h[o]? = some (some ⟨e,cs⟩)) (hc : Tak cs p sz ds) (hg : Gd ops n fr gd) (q : OpsX P N m ops l (aE n ((t,.agg ds) :: fr)) h K) : OpsX P N m ops (⟨some t,.load u x,ty,pos,aft,gd⟩ :: l) (aE n fr) h K := xS (bO hx (ldP hb (aAp T.h rfl hc.eq.2 hc.eq.1))) q hg
theorem xlX {α : Type} {E : α → V} {ml : List α} {r : α} [T : TiC P u ti] (hx : bI n fr x = some (.ptr o j.toNat)) (hb : h[o]? = some (some ⟨e,ml.map E⟩)) (hd : cB ti.desc = false) (hi : bS ml j = some r) (hg : Gd ops n fr gd) (q : OpsX P N m ops l (aE n ((t,E r) :: fr)) h K) : OpsX P N m ops (⟨some t,.load u x,ty,pos,aft,gd⟩ :: l) (aE n fr) h K := xS (bO hx (ldX T.h hd hb hi)) q hg
theorem aPj {α : Type} {E : α → V} {ml : List α} {r : α} [T : TiC P u ti] (hx : bI n fr x = some (.eptr (ml.map E) j.toNat p)) (hd : cB ti.desc = false) (hi : bS ml j = some r) (hc : ((E r).cells.drop p).head? = some v) (hg : Gd ops n fr gd) (q : OpsX P N m ops l (aE n ((t,v) :: fr)) h K) : OpsX P N m ops (⟨some t,.load u x,ty,pos,aft,gd⟩ :: l) (aE n fr) h K := xS (bO hx (ldR hi (nV T.h hd hc))) q hg
theorem aOU {α : Type} {E : α → V} {ml : List α} {r : α} {fs : Array Field} {sz by_ : Nat} {zz : Value} [T : TiC P u ⟨.struct fs,sz,by_,zz⟩] (hx : bI n fr x = some (.eptr (ml.map E) j.toNat p)) (hi : bS ml j = some r) (hE : E r = .agg cs) (hc : Tak cs p sz ds) (hg : Gd ops n fr gd) (q : OpsX P N m ops l (aE n ((t,.agg ds) :: fr)) h K) : OpsX P N m ops (⟨some t,.load u x,ty,pos,aft,gd⟩ :: l) (aE n fr) h K := xS (bO hx (ldR hi (by rw [hE]; exact aAp T.h rfl hc.eq.2 hc.eq.1))) q hg
inductive ArM : List V → List V → Prop
 | a4 {k : IntKind} {q : List Int} : q.length = 4 → ArM (cA (eI k) q []) (q.map (eI k))
 | a8 {k : IntKind} {q : List Int} : q.length = 8 → ArM (ar8 (eI k) q []) (q.map (eI k))
 | a20 {k : IntKind} {q : List Int} : q.length = 20 → ArM (aDw (eI k) q []) (q.map (eI k))
 | a32 {k : IntKind} {q : List Int} : q.length = 32 → ArM (bL (eI k) q []) (q.map (eI k))
 | a64 {k : IntKind} {q : List Int} : q.length = 64 → ArM (aDk (eI k) q []) (q.map (eI k))
theorem ArM.eq {a b : List V} (h : ArM a b) : a = b := by
 cases h with
 | a4 h => exact aA1 h
 | a8 h => exact aMB h
 | a20 h => exact aKu h
 | a32 h => exact uK h
 | a64 h => exact aK2 h
theorem xlA {es : List V} {N' sz by_ : Nat} {zz : Value} [T : TiC P u ⟨.array N' w,sz,by_,zz⟩] (hx : bI n fr x = some (.ptr o p)) (hb : h[o]? = some (some ⟨e,cs⟩)) (hc : Tak cs p sz ds) (ha : ArM ds es) (hg : Gd ops n fr gd) (q : OpsX P N m ops l (aE n ((t,.agg es) :: fr)) h K) : OpsX P N m ops (⟨some t,.load u x,ty,pos,aft,gd⟩ :: l) (aE n fr) h K := xS (bO hx (ldP hb (by rw [← ha.eq]; exact aAp T.h rfl hc.eq.2 hc.eq.1))) q hg
theorem xlB {α : Type} {E : α → V} {ml : List α} {N' sz by_ : Nat} {zz : Value} [T : TiC P u ⟨.array N' w,sz,by_,zz⟩] (hx : bI n fr x = some (.ptr o 0)) (hb : h[o]? = some (some ⟨e,ml.map E⟩)) (hz : sz = N') (hl : ml.length = N') (hg : Gd ops n fr gd) (q : OpsX P N m ops l (aE n ((t,.agg (ml.map E)) :: fr)) h K) : OpsX P N m ops (⟨some t,.load u x,ty,pos,aft,gd⟩ :: l) (aE n fr) h K := xS (bO hx (vQ T.h hz hb hl)) q hg
theorem xiR {α : Type} {E : α → V} {nl : Option Bool} {ml : List α} {r : α} {sz by_ : Nat} {zz : Value} [T : TiC P u ⟨.slice e,sz,by_,zz⟩] [D : TiC P e di] (hx : bI n fr x = some (.row nl o (ml.map E))) (hy : bI n fr y = some (eI k j)) (hs : di.size = o) (hi : bS ml j = some r) (hg : Gd ops n fr gd) (q : OpsX P N m ops l (aE n ((t,.eptr (ml.map E) j.toNat 0) :: fr)) h K) : OpsX P N m ops (⟨some t,.indexAddr u x y,ty,pos,aft,gd⟩ :: l) (aE n fr) h K := xS (yS hx hy (by subst hs; exact iaR T.h D.h hi)) q hg
theorem xiS {α : Type} {E : α → V} {ml : List α} {r : α} {q0 sz by_ : Nat} {zz : Value} {ag : Bool} [T : TiC P u ⟨.slice e,sz,by_,zz⟩] [D : TiC P e di] (hx : bI n fr x = some (.sl o 0 q0 1 ag)) (hy : bI n fr y = some (eI k j)) {e' : Nat} (hb : h[o]? = some (some ⟨e',ml.map E⟩)) (hi : bS ml j = some r) (hn : ml.length = q0) (hs : di.size = 1) (hg : Gd ops n fr gd) (q : OpsX P N m ops l (aE n ((t,.ptr o j.toNat) :: fr)) h K) : OpsX P N m ops (⟨some t,.indexAddr u x y,ty,pos,aft,gd⟩ :: l) (aE n fr) h K := xS (yS hx hy (iaS hn T.h D.h hs hi)) q hg
theorem xiB {α : Type} {E : α → V} {ml : List α} {r : α} {N' sz by_ : Nat} {zz : Value} [T : TiC P u ⟨.array N' e,sz,by_,zz⟩] [D : TiC P e di] (hx : bI n fr x = some (.ptr o 0)) (hy : bI n fr y = some (eI k j)) {e' : Nat} (hb : h[o]? = some (some ⟨e',ml.map E⟩)) (hi : bB N' ml j = some r) (hs : di.size = 1) (hg : Gd ops n fr gd) (q : OpsX P N m ops l (aE n ((t,.ptr o j.toNat) :: fr)) h K) : OpsX P N m ops (⟨some t,.indexAddr u x y,ty,pos,aft,gd⟩ :: l) (aE n fr) h K := xS (yS hx hy (iaB T.h D.h hs hi)) q hg
theorem xVv {jj ww : Nat} {want : Bool} (hj : (ops[jj]?).bind (·.dst) = some ww) (hl : bI n fr (.tmp ww) = some (.sc undef)) (q : OpsX P N m ops l (aE n ((t,.sc undef) :: fr)) h K) : OpsX P N m ops (⟨some t,op,ty,pos,aft,some (jj,want)⟩ :: l) (aE n fr) h K := xS0 (svU hj hl) q
theorem xXx {jj ww : Nat} {want : Bool} (hj : (ops[jj]?).bind (·.dst) = some ww) (hl : bI n fr (.tmp ww) = some (.sc (.bool c))) (hc : c = !want) (q : OpsX P N m ops l (aE n ((t,.sc undef) :: fr)) h K) : OpsX P N m ops (⟨some t,op,ty,pos,aft,some (jj,want)⟩ :: l) (aE n fr) h K := xS0 (svX hj hl hc) q
def aKJ : List Oper → Bool
 | [] => true
 | o :: l => (match o.guard,o.op with
  | none,.pick _ _ _ => false
  | none,_ => true
  | some _,_ => false) && aKJ l
theorem xqn {cc : Code} {id : Nat} (hn : aKJ l = true) (hr : OpsX P N none l.toArray l s h (Ex.then (AB P N cc Q) Q .normal)) : AB P N (.seq (.region id l.toArray false) cc) Q s h := xq hr
theorem xrn {id : Nat} (hn : aKJ l = true) (hr : OpsX P N none l.toArray l s h (Q .normal)) : AB P N (.region id l.toArray false) Q s h := xr hr
theorem xsA {α : Type} {E : α → V} {ml mm : List α} {N' sz by_ i' : Nat} {zz : Value} [T : TiC P u ⟨.array N' e,sz,by_,zz⟩] (hx : bI n fr x = some (.ptr o 0)) (hb : h[o]? = some (some ⟨i',ml.map E⟩)) (hy : bI n fr y = some (.agg (mm.map E))) (hz : sz = N') (hE : ∀ x,(E x).one = true) (h1 : ml.length = N') (h2 : mm.length = N') (hh : LSet h o (some ⟨i',mm.map E⟩) h') (hg : Gd ops n fr gd) (q : OpsX P N m ops l (aE n fr) h' K) : OpsX P N m ops (⟨none,.store u x y,ty,pos,aft,gd⟩ :: l) (aE n fr) h K := xN (v := .sc undef) (h' := h') (aY hx hy (tK T.h hz hb hE h1 h2 hh.eq)) q hg
theorem xs [T : TiC P u ti] (hx : bI n fr x = some (.ptr o p)) (hy : bI n fr y = some v) (hb : h[o]? = some (some ⟨e,cs⟩)) {es fs : List V} (hv : Cel v es) (h1 : es.length = ti.size) (h2 : Nat.ble (p + ti.size) cs.length = true) (hs : Spl cs p es fs) (hh : LSet h o (some ⟨e,fs⟩) h') (hg : Gd ops n fr gd) (q : OpsX P N m ops l (aE n fr) h' K) : OpsX P N m ops (⟨none,.store u x y,ty,pos,aft,gd⟩ :: l) (aE n fr) h K := by
 obtain ⟨hv1,hv2⟩ := hv.eq
 refine xN (v := .sc undef) (h' := h') (aY hx hy (fU T.h hb hv2 (by rw [hv1,h1]) (Nat.le_of_ble_eq_true h2) ?_)) q hg
 rw [hv1,hs.eq,hh.eq]
theorem xsX {α : Type} {E : α → V} {ml : List α} {r r' : α} [T : TiC P u ti] (hx : bI n fr x = some (.ptr o j.toNat)) (hb : h[o]? = some (some ⟨e,ml.map E⟩)) (hy : bI n fr y = some (E r')) (hz : ti.size = 1) (hi : bS ml j = some r) (ho : (E r').one = true) (hc : (E r').cells = [E r']) (hh : LSet h o (some ⟨e,(ml.set j.toNat r').map E⟩) h') (hg : Gd ops n fr gd) (q : OpsX P N m ops l (aE n fr) h' K) : OpsX P N m ops (⟨none,.store u x y,ty,pos,aft,gd⟩ :: l) (aE n fr) h K := xN (v := .sc undef) (h' := h') (aY hx hy (aO6 T.h hz hb hi ho hc hh.eq)) q hg
theorem xal {r : Nat} [A : NoA P e] [T : TiC P e ti] (hz : Zro ti.zero cs) (hh : Snoc h (some ⟨e,cs⟩) h') (hl : h.length = r) (hg : Gd ops n fr gd) (q : OpsX P N m ops l (aE n ((t,.ptr r 0) :: fr)) h' K) : OpsX P N m ops (⟨some t,.alloc e,ty,pos,aft,gd⟩ :: l) (aE n fr) h K :=
 xS (iC T.h (by rw [hz.eq.1]; exact hz.eq.2) hl (by rw [hz.eq.1]; exact hh.eq)) q hg
theorem aPd {r N' sz by_ sz' by' : Nat} {k' : IntKind} {e' : TypeId} {vs : List Value} {z' : Value} [T : TiC P e ⟨.array N' e',sz,by_,.agg vs.toArray⟩] [D : TiC P e' ⟨.int k',sz',by',z'⟩] (hz : vs.map dO = (List.replicate N' 0).map (eI k')) (hh : Snoc h (some ⟨e,(List.replicate N' 0).map (eI k')⟩) h') (hl : h.length = r) (hg : Gd ops n fr gd) (q : OpsX P N m ops l (aE n ((t,.ptr r 0) :: fr)) h' K) : OpsX P N m ops (⟨some t,.alloc e,ty,pos,aft,gd⟩ :: l) (aE n fr) h K :=
 xS (iC T.h (by
  have e1 : (TI.zero ⟨.array N' e',sz,by_,.agg vs.toArray⟩).cells.toList.map dO = (List.replicate N' 0).map (eI k') := hz
  rw [e1]; exact all_map (fun _ => rfl) _) hl (by
  have e1 : (TI.zero ⟨.array N' e',sz,by_,.agg vs.toArray⟩).cells.toList.map dO = (List.replicate N' 0).map (eI k') := hz
  rw [e1]; exact hh.eq)) q hg
theorem xbx {r : Nat} (hx : bI n fr x = some a) (hv : Cel a cs) (hh : Snoc h (some ⟨e,cs⟩) h') (hl : h.length = r) (hg : Gd ops n fr gd) (q : OpsX P N m ops l (aE n ((t,.ptr r 0) :: fr)) h' K) : OpsX P N m ops (⟨some t,.box e x,ty,pos,aft,gd⟩ :: l) (aE n fr) h K :=
 xS (aN5 hx hv.eq.2 hl (by rw [hv.eq.1]; exact hh.eq)) q hg
theorem xbd {fs : Array Field} {sz by_ : Nat} {zz : Value} {pl : Array (Nat × Nat)} {ps : List (Nat × Operand)} {xs : List (Nat × V)} [T : TiC P u ⟨.struct fs,sz,by_,zz⟩] [L : PlC P u pl] [A : NoA P u] (hp : aAV n fr ps = some xs) (hz : Zro zz cs) (hf : Fil pl cs xs ds) (hg : Gd ops n fr gd) (q : OpsX P N m ops l (aE n ((t,.agg ds) :: fr)) h K) : OpsX P N m ops (⟨some t,.build u ps.toArray,ty,pos,aft,gd⟩ :: l) (aE n fr) h K :=
 xS (cF hp (aAO T.h L.h (by rw [hz.eq.1]; exact hf.eq))) q hg
theorem xpT (hz : bI n fr z = some (eB c)) (hc : c = true) (hx : bI n fr x = some a) (hg : Gd ops n fr gd) (q : OpsX P N m ops l (aE n ((t,a) :: fr)) h K) : OpsX P N m ops (⟨some t,.pick z x y,ty,pos,aft,gd⟩ :: l) (aE n fr) h K := xS (aMm hz hc hx) q hg
theorem xpF (hz : bI n fr z = some (eB c)) (hc : c = false) (hy : bI n fr y = some a) (hg : Gd ops n fr gd) (q : OpsX P N m ops l (aE n ((t,a) :: fr)) h K) : OpsX P N m ops (⟨some t,.pick z x y,ty,pos,aft,gd⟩ :: l) (aE n fr) h K := xS (aMg hz hc hy) q hg
inductive NumK (k : IntKind) : Nat → List (Nat × V) → List Int → Prop
 | n {i : Nat} : NumK k i [] []
 | c {i : Nat} {x : Int} {ps : List (Nat × V)} {xs : List Int} : NumK k (i + 1) ps xs → NumK k i ((i,eI k x) :: ps) (x :: xs)
theorem NumK.eq {k : IntKind} {i : Nat} {ps : List (Nat × V)} {xs : List Int} (h : NumK k i ps xs) : qV i (xs.map (eI k)) = ps := by
 induction h with
 | n => rfl
 | c _ ih => simp only [List.map_cons,qV]; rw [ih]
inductive NumB : Nat → List (Nat × V) → List Bool → Prop
 | n {i : Nat} : NumB i [] []
 | c {i : Nat} {x : Bool} {ps : List (Nat × V)} {xs : List Bool} : NumB (i + 1) ps xs → NumB i ((i,eB x) :: ps) (x :: xs)
theorem NumB.eq {i : Nat} {ps : List (Nat × V)} {xs : List Bool} (h : NumB i ps xs) : qV i (xs.map eB) = ps := by
 induction h with
 | n => rfl
 | c _ ih => simp only [List.map_cons,qV]; rw [ih]
inductive NumR {α : Type} (kk : Nat) (E : α → V) : Nat → List (Nat × V) → List (List α) → Prop
 | n {i : Nat} : NumR kk E i [] []
 | c {i : Nat} {x : List α} {ps : List (Nat × V)} {xs : List (List α)} : NumR kk E (i + 1) ps xs → NumR kk E i ((i,.row none kk (x.map E)) :: ps) (x :: xs)
 | z {i : Nat} {ps : List (Nat × V)} {xs : List (List α)} : NumR kk E (i + 1) ps xs → NumR kk E i ((i,.row none kk []) :: ps) ([] :: xs)
theorem NumR.eq {α : Type} {kk : Nat} {E : α → V} {i : Nat} {ps : List (Nat × V)} {xs : List (List α)} (h : NumR kk E i ps xs) : qV i (xs.map (eL kk E)) = ps := by
 induction h with
 | n => rfl
 | z _ ih => simp only [List.map_cons,qV]; rw [ih]; rfl
 | c _ ih => simp only [List.map_cons,qV]; rw [ih]
theorem aO1 {α : Type} {E : α → V} (hE : ∀ x,(E x).one = true) (hc : ∀ x,(E x).cells = [E x]) (xs : List α) : (xs.map E).all (fun x => x.one && (x.cells.length == 1)) = true := by
 simp [List.all_eq_true,hE,hc]
theorem aKL {α : Type} {E : α → V} {js : List α} {len sz by_ r : Nat} {zz : Value} {ps : List (Nat × Operand)} {xs : List (Nat × V)} [T : TiC P u ⟨.slice e,sz,by_,zz⟩] [D : TiC P e di] (hp : sR n fr ps = some xs) (hn : qV 0 (js.map E) = xs) (hE : ∀ x,(E x).one = true) (hc : ∀ x,(E x).cells = [E x]) (hs : di.size = 1) {ag : Bool} (ha : cB di.desc = ag) (h1 : Nat.ble (len * 1) (2 ^ 24) = true) (h2 : Nat.ble 1 len = true) (hlen : js.length = len) (hh : Snoc h (some ⟨e,js.map E⟩) h') (hl : h.length = r) (hg : Gd ops n fr gd) (q : OpsX P N m ops l (aE n ((t,.sl r 0 len 1 ag) :: fr)) h' K) : OpsX P N m ops (⟨some t,.buildSlice u len ps.toArray,ty,pos,aft,gd⟩ :: l) (aE n fr) h K :=
 xS (qF hp (aIY T.h D.h (Nat.le_of_ble_eq_true h1) (Nat.le_of_ble_eq_true h2) hs ha hn (aO1 hE hc _) (by rw [List.length_map]; exact hlen) hl hh.eq)) q hg
theorem aPo {js : List Int} {len sz by_ r sz' by' : Nat} {zz z' : Value} {ps : List (Nat × Operand)} {xs : List (Nat × V)} [T : TiC P u ⟨.slice e,sz,by_,zz⟩] [D : TiC P e ⟨.int k,sz',by',z'⟩] (hp : sR n fr ps = some xs) (hn : NumK k 0 xs js) (hs : sz' = 1) (h1 : Nat.ble (len * 1) (2 ^ 24) = true) (h2 : Nat.ble 1 len = true) (hlen : js.length = len) (hh : Snoc h (some ⟨e,js.map (eI k)⟩) h') (hl : h.length = r) (hg : Gd ops n fr gd) (q : OpsX P N m ops l (aE n ((t,.sl r 0 len 1 false) :: fr)) h' K) : OpsX P N m ops (⟨some t,.buildSlice u len ps.toArray,ty,pos,aft,gd⟩ :: l) (aE n fr) h K := aKL (ag := false) hp hn.eq (fun _ => rfl) (fun _ => rfl) hs rfl h1 h2 hlen hh hl hg q
theorem aOz {js : List Bool} {len sz by_ r sz' by' : Nat} {zz z' : Value} {ps : List (Nat × Operand)} {xs : List (Nat × V)} [T : TiC P u ⟨.slice e,sz,by_,zz⟩] [D : TiC P e ⟨.bool,sz',by',z'⟩] (hp : sR n fr ps = some xs) (hn : NumB 0 xs js) (hs : sz' = 1) (h1 : Nat.ble (len * 1) (2 ^ 24) = true) (h2 : Nat.ble 1 len = true) (hlen : js.length = len) (hh : Snoc h (some ⟨e,js.map eB⟩) h') (hl : h.length = r) (hg : Gd ops n fr gd) (q : OpsX P N m ops l (aE n ((t,.sl r 0 len 1 false) :: fr)) h' K) : OpsX P N m ops (⟨some t,.buildSlice u len ps.toArray,ty,pos,aft,gd⟩ :: l) (aE n fr) h K := aKL (ag := false) hp hn.eq (fun _ => rfl) (fun _ => rfl) hs rfl h1 h2 hlen hh hl hg q
theorem aO9 {α : Type} {E : α → V} {kk : Nat} {js : List (List α)} {len sz by_ r sz' by' : Nat} {zz z' : Value} {e' : TypeId} {ps : List (Nat × Operand)} {xs : List (Nat × V)} [T : TiC P u ⟨.slice e,sz,by_,zz⟩] [D : TiC P e ⟨.slice e',sz',by',z'⟩] (hp : sR n fr ps = some xs) (hn : NumR kk E 0 xs js) (hs : sz' = 1) (h1 : Nat.ble (len * 1) (2 ^ 24) = true) (h2 : Nat.ble 1 len = true) (hlen : js.length = len) (hh : Snoc h (some ⟨e,js.map (eL kk E)⟩) h') (hl : h.length = r) (hg : Gd ops n fr gd) (q : OpsX P N m ops l (aE n ((t,.sl r 0 len 1 false) :: fr)) h' K) : OpsX P N m ops (⟨some t,.buildSlice u len ps.toArray,ty,pos,aft,gd⟩ :: l) (aE n fr) h K := aKL (ag := false) hp hn.eq (fun _ => rfl) (fun _ => rfl) hs rfl h1 h2 hlen hh hl hg q
theorem aO4 {k' : IntKind} {r : Int} (hx : bI n fr x = some (eI k i)) (hy : bI n fr y = some (eI k' j)) (hv : shl k i j = some r) (hg : Gd ops n fr gd) (q : OpsX P N m ops l (aE n ((t,eI k r) :: fr)) h K) : OpsX P N m ops (⟨some t,.binOp .shl u x y w,ty,pos,aft,gd⟩ :: l) (aE n fr) h K := xS (xE hx hy (aKY _ _ _ _ hv)) q hg
theorem aOK {k' : IntKind} {r : Int} (hx : bI n fr x = some (eI k i)) (hy : bI n fr y = some (eI k' j)) (hv : shr k i j = some r) (hg : Gd ops n fr gd) (q : OpsX P N m ops l (aE n ((t,eI k r) :: fr)) h K) : OpsX P N m ops (⟨some t,.binOp .shr u x y w,ty,pos,aft,gd⟩ :: l) (aE n fr) h K := xS (xE hx hy (aKq _ _ _ _ hv)) q hg
theorem aOD {r : Int} (hx : bI n fr x = some (eI k i)) (hy : bI n fr y = some (eI k j)) (hv : quo k i j = some r) (hg : Gd ops n fr gd) (q : OpsX P N m ops l (aE n ((t,eI k r) :: fr)) h K) : OpsX P N m ops (⟨some t,.binOp .quo u x y w,ty,pos,aft,gd⟩ :: l) (aE n fr) h K := xS (xE hx hy (aKX _ _ _ _ hv)) q hg
theorem aOY {r : Int} (hx : bI n fr x = some (eI k i)) (hy : bI n fr y = some (eI k j)) (hv : rem i j = some r) (hg : Gd ops n fr gd) (q : OpsX P N m ops l (aE n ((t,eI k r) :: fr)) h K) : OpsX P N m ops (⟨some t,.binOp .rem u x y w,ty,pos,aft,gd⟩ :: l) (aE n fr) h K := xS (xE hx hy (aK0 _ _ _ _ hv)) q hg
class DepC (P : Program) : Prop where
 h : 2 ≤ P.depth
theorem xeA {k' : IntKind} {N' sz by_ sz' by' : Nat} {zz z' : Value} {ml mm : List Int} [A : DepC P] [T : TiC P u ⟨.array N' e,sz,by_,zz⟩] [D : TiC P e ⟨.int k',sz',by',z'⟩] (hx : bI n fr x = some (.agg (ml.map (eI k)))) (hy : bI n fr y = some (.agg (mm.map (eI k)))) (hz : sz' = 1) (h1 : ml.length = N') (h2 : mm.length = N') (hg : Gd ops n fr gd) (q : OpsX P N m ops l (aE n ((t,eB (ml == mm)) :: fr)) h K) : OpsX P N m ops (⟨some t,.binOp .eql u x y w,ty,pos,aft,gd⟩ :: l) (aE n fr) h K := xS (xE hx hy (aLn _ _ T.h D.h hz A.h h1 h2)) q hg
theorem xnA {k' : IntKind} {N' sz by_ sz' by' : Nat} {zz z' : Value} {ml mm : List Int} [A : DepC P] [T : TiC P u ⟨.array N' e,sz,by_,zz⟩] [D : TiC P e ⟨.int k',sz',by',z'⟩] (hx : bI n fr x = some (.agg (ml.map (eI k)))) (hy : bI n fr y = some (.agg (mm.map (eI k)))) (hz : sz' = 1) (h1 : ml.length = N') (h2 : mm.length = N') (hg : Gd ops n fr gd) (q : OpsX P N m ops l (aE n ((t,eB (!(ml == mm))) :: fr)) h K) : OpsX P N m ops (⟨some t,.binOp .neq u x y w,ty,pos,aft,gd⟩ :: l) (aE n fr) h K := xS (xE hx hy (aKK _ _ T.h D.h hz A.h h1 h2)) q hg
theorem xsR {α : Type} {E : α → V} {ml r : List α} {nl : Option Bool} {sz by_ : Nat} {zz : Value} {lo hi : Option Operand} {vl vh : Option V} {c1 c2 : Int} [T : TiC P u ⟨.slice e,sz,by_,zz⟩] [D : TiC P e di] (hx : bI n fr x = some (.row nl o (ml.map E))) (h1 : aCt n fr lo = some vl) (h2 : aCt n fr hi = some vh) (ha : lP vl = some c1) (hb : rP vh ml.length = some c2) (hs : sub ml c1 c2 = some r) (ho : di.size = o) {nl' : Option Bool} (hq : nlS nl = nl') (hg : Gd ops n fr gd) (q : OpsX P N m ops l (aE n ((t,.row nl' o (r.map E)) :: fr)) h K) : OpsX P N m ops (⟨some t,.slice u x lo hi none,ty,pos,aft,gd⟩ :: l) (aE n fr) h K := by
 subst ho hq; exact xS (b5 hx h1 h2 (qM T.h D.h ha hb hs)) q hg
theorem xsM {α : Type} {E : α → V} {ml r : List α} {nl : Option Bool} {sz by_ : Nat} {zz : Value} {lo : Option Operand} {hi mx : Operand} {vl : Option V} {c1 c2 : Int} {k1 k2 : IntKind} [T : TiC P u ⟨.slice e,sz,by_,zz⟩] [D : TiC P e di] (hx : bI n fr x = some (.row nl o (ml.map E))) (h1 : aCt n fr lo = some vl) (ha : lP vl = some c1) (h2 : bI n fr hi = some (eI k1 c2)) (h3 : bI n fr mx = some (eI k2 c2)) (hs : sub ml c1 c2 = some r) (ho : di.size = o) (hg : Gd ops n fr gd) (q : OpsX P N m ops l (aE n ((t,.row (some false) o (r.map E)) :: fr)) h K) : OpsX P N m ops (⟨some t,.slice u x lo (some hi) (some mx),ty,pos,aft,gd⟩ :: l) (aE n fr) h K := by
 subst ho; exact xS (aKD hx h1 h2 h3 (slM T.h D.h ha hs)) q hg
theorem xsE {α : Type} {E : α → V} {ml : List α} {N' sz by_ : Nat} {zz : Value} [T : TiC P u ⟨.array N' e,sz,by_,zz⟩] [D : TiC P e di] (hx : bI n fr x = some (.eptr [.agg (ml.map E)] 0 0)) (hs : di.size = 1) (ha : cB di.desc = false) (h1 : ml.length = N') (h2 : Nat.ble 1 N' = true) (hg : Gd ops n fr gd) (q : OpsX P N m ops l (aE n ((t,.row none 1 (ml.map E)) :: fr)) h K) : OpsX P N m ops (⟨some t,.slice u x none none none,ty,pos,aft,gd⟩ :: l) (aE n fr) h K := xS (b5 hx rfl rfl (slE T.h D.h hs ha h1 (Nat.le_of_ble_eq_true h2))) q hg
theorem xsL {α : Type} {E : α → V} {ml : List α} {N' sz by_ i' : Nat} {zz : Value} {ag : Bool} [T : TiC P u ⟨.array N' e,sz,by_,zz⟩] [D : TiC P e di] (hx : bI n fr x = some (.ptr o 0)) (hb : h[o]? = some (some ⟨i',ml.map E⟩)) (hs : di.size = 1) (ha : cB di.desc = ag) (h1 : ml.length = N') (h2 : Nat.ble 1 N' = true) (h3 : Nat.ble N' lE = true) (hg : Gd ops n fr gd) (q : OpsX P N m ops l (aE n ((t,.sl o 0 N' 1 ag) :: fr)) h K) : OpsX P N m ops (⟨some t,.slice u x none none none,ty,pos,aft,gd⟩ :: l) (aE n fr) h K := xS (b5 hx rfl rfl (slA T.h D.h hs ha hb h1 ⟨Nat.le_of_ble_eq_true h2,Nat.le_of_ble_eq_true h3⟩)) q hg
theorem xiK {α : Type} {C : α → List V} {ml : List α} {r : α} {q0 sz by_ e' : Nat} {zz : Value} [T : TiC P u ⟨.slice e,sz,by_,zz⟩] [D : TiC P e di] (hx : bI n fr x = some (.sl o 0 q0 p true)) (hy : bI n fr y = some (eI k j)) (hb : h[o]? = some (some ⟨e',ml.flatMap C⟩)) (hi : bS ml j = some r) (hn : ml.length = q0) (hs : di.size = p) (hg : Gd ops n fr gd) (q : OpsX P N m ops l (aE n ((t,.ptr o (0 + j.toNat * p)) :: fr)) h K) : OpsX P N m ops (⟨some t,.indexAddr u x y,ty,pos,aft,gd⟩ :: l) (aE n fr) h K := xS (yS hx hy (aOX hn T.h D.h hs hi)) q hg
inductive Sr1 {α : Type} (E : α → V) (h : Hp) : V → List α → Prop
 | r {nl : Option Bool} {ml : List α} : (∀ x,(E x).cells = [E x]) → Sr1 E h (.row nl 1 (ml.map E)) ml
 | s {b q e : Nat} {ag : Bool} {ml : List α} : h[b]? = some (some ⟨e,ml.map E⟩) → ml.length = q → Sr1 E h (.sl b 0 q 1 ag) ml
 | n {nl : Option Bool} {k : Nat} : Sr1 E h (.row nl k []) []
theorem Sr1.eq {α : Type} {E : α → V} {h : Hp} {v : V} {ml : List α} (hs : Sr1 E h v ml) : fK h 1 v = some (ml.map E,ml.length) := by
 cases hs with
 | r hE => exact aAJ hE
 | s hb hq => exact aO2 hq hb
 | n => exact aOv
inductive SrK {α : Type} (C : α → List V) (K : Nat) (h : Hp) : V → List α → Prop
 | r {nl : Option Bool} {ml : List α} : SrK C K h (.row nl K (ml.map fun x => V.agg (C x))) ml
 | s {b q e : Nat} {ml : List α} : (∀ x,(C x).length = K) → h[b]? = some (some ⟨e,ml.flatMap C⟩) → ml.length = q → SrK C K h (.sl b 0 q K true) ml
 | n {nl : Option Bool} {k : Nat} : SrK C K h (.row nl k []) []
theorem SrK.eq {α : Type} {C : α → List V} {K : Nat} {h : Hp} {v : V} {ml : List α} (hs : SrK C K h v ml) : fK h K v = some (ml.flatMap C,ml.length) := by
 cases hs with
 | r => exact aOg
 | s hC hb hq => exact aNY hC hq hb
 | n => exact aN1
theorem xap {α : Type} {E : α → V} {ml mm r : List α} {q0 sz by_ r0 : Nat} {zz : Value} {ag : Bool} {h2 : Hp} [T : TiC P u ⟨.slice e,sz,by_,zz⟩] [D : TiC P e di] (hx : bI n fr x = some (.sl o 0 q0 1 ag)) (hy : bI n fr y = some v) (hb : h[o]? = some (some ⟨e,ml.map E⟩)) (hs : Sr1 E h v mm) (hn : ml.length = q0) (h1 : di.zero.cells.size = 1) (h3 : di.size = 1) (h4 : Nat.ble 1 di.bytes = true) {bb : Nat} (hbb : di.bytes = bb) (ha : eZ bb ml mm = some r) (hh : LSet h o none h2) (hh' : Snoc h2 (some ⟨e,r.map E⟩) h') (hl : h.length = r0) (hg : Gd ops n fr gd) (q : OpsX P N m ops l (aE n ((t,.sl r0 0 r.length 1 ag) :: fr)) h' K) : OpsX P N m ops (⟨some t,.call ⟨.builtin .append,#[x,y],#[u,u]⟩,ty,pos,aft,gd⟩ :: l) (aE n fr) h K := by
 subst hbb; exact xS (aAl hx hy (aPn hn T.h D.h ⟨h1,h3,Nat.le_of_ble_eq_true h4⟩ hb hs.eq ha hl (by rw [hh.eq,hh'.eq]))) q hg
theorem xan {α : Type} {E : α → V} {mm r : List α} {sz by_ r0 kk : Nat} {zz : Value} {ag : Bool} {h2 : Hp} [T : TiC P u ⟨.slice e,sz,by_,zz⟩] [D : TiC P e di] (hx : bI n fr x = some (.row (some true) kk [])) (hy : bI n fr y = some v) (hs : Sr1 E h v mm) (h1 : di.zero.cells.size = 1) (h3 : di.size = 1) (h4 : Nat.ble 1 di.bytes = true) (hag : cB di.desc = ag) {bb : Nat} (hbb : di.bytes = bb) (ha : eZ bb [] mm = some r) (hh : Snoc h none h2) (hh' : Snoc h2 (some ⟨e,r.map E⟩) h') (hl : h2.length = r0) (hg : Gd ops n fr gd) (q : OpsX P N m ops l (aE n ((t,.sl r0 0 r.length 1 ag) :: fr)) h' K) : OpsX P N m ops (⟨some t,.call ⟨.builtin .append,#[x,y],#[u,u]⟩,ty,pos,aft,gd⟩ :: l) (aE n fr) h K := by
 subst hbb; exact xS (aAl hx hy (aO5 T.h D.h ⟨h1,h3,Nat.le_of_ble_eq_true h4⟩ hs.eq hag ha (by rw [← hl,← hh.eq]; simp) (by rw [hh.eq,hh'.eq]))) q hg
theorem xaf {α : Type} {E : α → V} {ml mm r : List α} {sz by_ r0 : Nat} {zz : Value} {ag : Bool} [T : TiC P u ⟨.slice e,sz,by_,zz⟩] [D : TiC P e di] (hx : bI n fr x = some (.row (some false) 1 (ml.map E))) (hy : bI n fr y = some v) (hE : ∀ x,(E x).cells = [E x]) (hs : Sr1 E h v mm) (hm : Nat.ble 1 mm.length = true) (h1 : di.zero.cells.size = 1) (h3 : di.size = 1) (h4 : Nat.ble 1 di.bytes = true) (hag : cB di.desc = ag) {bb : Nat} (hbb : di.bytes = bb) (ha : eZ bb ml mm = some r) (hh : Snoc h (some ⟨e,r.map E⟩) h') (hl : h.length = r0) (hg : Gd ops n fr gd) (q : OpsX P N m ops l (aE n ((t,.sl r0 0 r.length 1 ag) :: fr)) h' K) : OpsX P N m ops (⟨some t,.call ⟨.builtin .append,#[x,y],#[u,u]⟩,ty,pos,aft,gd⟩ :: l) (aE n fr) h K := by
 subst hbb; exact xS (aAl hx hy (aO0 T.h D.h ⟨h1,h3,Nat.le_of_ble_eq_true h4⟩ hE hs.eq (Nat.le_of_ble_eq_true hm) hag ha hl (by rw [hh.eq]))) q hg
theorem aPm {α : Type} {C : α → List V} {ml mm r : List α} {q0 sz by_ r0 : Nat} {zz : Value} {h2 : Hp} [T : TiC P u ⟨.slice e,sz,by_,zz⟩] [D : TiC P e di] (hx : bI n fr x = some (.sl o 0 q0 p true)) (hy : bI n fr y = some v) (hb : h[o]? = some (some ⟨e,ml.flatMap C⟩)) (hC : ∀ x,(C x).length = p) (hs : SrK C p h v mm) (hn : ml.length = q0) (h1 : di.zero.cells.size = p) (h3 : di.size = p) (h4 : Nat.ble 1 di.bytes = true) (h5 : Nat.ble 1 p = true) {bb : Nat} (hbb : di.bytes = bb) (ha : eZ bb ml mm = some r) (hh : LSet h o none h2) (hh' : Snoc h2 (some ⟨e,r.flatMap C⟩) h') (hl : h.length = r0) (hg : Gd ops n fr gd) (q : OpsX P N m ops l (aE n ((t,.sl r0 0 r.length p true) :: fr)) h' K) : OpsX P N m ops (⟨some t,.call ⟨.builtin .append,#[x,y],#[u,u]⟩,ty,pos,aft,gd⟩ :: l) (aE n fr) h K := by
 subst hbb; exact xS (aAl hx hy (aOd hC hn T.h D.h ⟨h1,h3,Nat.le_of_ble_eq_true h4,Nat.le_of_ble_eq_true h5⟩ hb hs.eq ha hl (by rw [hh.eq,hh'.eq]))) q hg
end
structure aPr (q : Prop) : Prop where
 h : q
section
variable {P : Program} {N n t : Nat} {m : Option (List Nat × List Nat)} {ops : Array Oper} {l : List Oper} {h : Hp} {K : List V → Hp → Prop} {op : Op} {ty : TypeId} {pos : String} {aft : Array Edge} {gd : Option (Nat × Bool)} {x y z : Operand} {Q : Ex → List V → Hp → Prop} {s : List V} {o e : Nat} {u w : TypeId} {bo : BinOp} {ob : Oper} {c : Code} {ws : List Operand} {ts : Array TypeId} {ps : List (Nat × Operand)} {lo hi : Option Operand} {hj mj : Operand}
theorem isX (k : OpsX P N m ops (ob :: l) s h K) : OpsX P N m ops (ob :: l) s h K := k
theorem isA (k : AB P N c Q s h) : AB P N c Q s h := k
theorem aLR (k : OpsX P N m ops (⟨some t,.call ⟨.builtin .len,ws.toArray,ts⟩,ty,pos,aft,gd⟩ :: l) s h K) : OpsX P N m ops (⟨some t,.call ⟨.builtin .len,ws.toArray,ts⟩,ty,pos,aft,gd⟩ :: l) s h K := k
theorem aM5 (k : OpsX P N m ops (⟨some t,.call ⟨.builtin .append,ws.toArray,ts⟩,ty,pos,aft,gd⟩ :: l) s h K) : OpsX P N m ops (⟨some t,.call ⟨.builtin .append,ws.toArray,ts⟩,ty,pos,aft,gd⟩ :: l) s h K := k
theorem aMD (k : OpsX P N m ops (⟨some t,.move x,ty,pos,aft,gd⟩ :: l) s h K) : OpsX P N m ops (⟨some t,.move x,ty,pos,aft,gd⟩ :: l) s h K := k
theorem aLP (k : OpsX P N m ops (⟨some t,.load u x,ty,pos,aft,gd⟩ :: l) s h K) : OpsX P N m ops (⟨some t,.load u x,ty,pos,aft,gd⟩ :: l) s h K := k
theorem aNx (k : OpsX P N m ops (⟨some t,.binOp bo u x y w,ty,pos,aft,gd⟩ :: l) s h K) : OpsX P N m ops (⟨some t,.binOp bo u x y w,ty,pos,aft,gd⟩ :: l) s h K := k
theorem aOm (k : OpsX P N m ops (⟨some t,.fieldAddr u x o,ty,pos,aft,gd⟩ :: l) s h K) : OpsX P N m ops (⟨some t,.fieldAddr u x o,ty,pos,aft,gd⟩ :: l) s h K := k
theorem aND (k : OpsX P N m ops (⟨some t,.assign x,ty,pos,aft,gd⟩ :: l) s h K) : OpsX P N m ops (⟨some t,.assign x,ty,pos,aft,gd⟩ :: l) s h K := k
theorem aOf (k : OpsX P N m ops (⟨some t,.indexAddr u x y,ty,pos,aft,gd⟩ :: l) s h K) : OpsX P N m ops (⟨some t,.indexAddr u x y,ty,pos,aft,gd⟩ :: l) s h K := k
theorem aOb (k : OpsX P N m ops (⟨none,.store u x y,ty,pos,aft,gd⟩ :: l) s h K) : OpsX P N m ops (⟨none,.store u x y,ty,pos,aft,gd⟩ :: l) s h K := k
theorem aNZ (k : OpsX P N m ops (⟨some t,.alloc e,ty,pos,aft,gd⟩ :: l) s h K) : OpsX P N m ops (⟨some t,.alloc e,ty,pos,aft,gd⟩ :: l) s h K := k
theorem aOe (k : OpsX P N m ops (⟨some t,.buildSlice u o ps.toArray,ty,pos,aft,gd⟩ :: l) s h K) : OpsX P N m ops (⟨some t,.buildSlice u o ps.toArray,ty,pos,aft,gd⟩ :: l) s h K := k
theorem aN3 (k : OpsX P N m ops (⟨some t,.slice u x lo (some hj) (some mj),ty,pos,aft,gd⟩ :: l) s h K) : OpsX P N m ops (⟨some t,.slice u x lo (some hj) (some mj),ty,pos,aft,gd⟩ :: l) s h K := k
theorem aNU (k : OpsX P N m ops (⟨some t,.slice u x lo hi none,ty,pos,aft,gd⟩ :: l) s h K) : OpsX P N m ops (⟨some t,.slice u x lo hi none,ty,pos,aft,gd⟩ :: l) s h K := k
theorem aN4 (k : OpsX P N m ops (⟨some t,.pick x y z,ty,pos,aft,gd⟩ :: l) s h K) : OpsX P N m ops (⟨some t,.pick x y z,ty,pos,aft,gd⟩ :: l) s h K := k
theorem aOp (k : OpsX P N m ops (⟨some t,.nilCheck x,ty,pos,aft,gd⟩ :: l) s h K) : OpsX P N m ops (⟨some t,.nilCheck x,ty,pos,aft,gd⟩ :: l) s h K := k
end
theorem zz {p q : Prop} (k : q) (h : aPr q → p := by (intro kk; (repeat (first | (apply isX; first | ((with_reducible apply aLR); first | (apply xlR; exact rfl; (first | exact True.intro | exact ⟨_,rfl,_,rfl,by assumption⟩)) | (apply xlS; exact rfl; (first | exact True.intro | exact ⟨_,rfl,_,rfl,by assumption⟩)) | (apply xlT; exact rfl; (first | exact True.intro | exact ⟨_,rfl,_,rfl,by assumption⟩))) | ((with_reducible apply aM5); first | (apply xap; exact rfl; exact rfl; exact rfl; (first | exact Sr1.n | (apply Sr1.r; exact (fun _ => rfl)) | (apply Sr1.s; exact rfl; (first | exact rfl | exact (by simp only [bK,bJ,List.length_replicate]; done) | exact aV (by assumption) | exact bW (by assumption)))); (first | exact rfl | exact (by simp only [bK,bJ,List.length_replicate]; done) | exact aV (by assumption) | exact bW (by assumption)); exact rfl; exact rfl; exact rfl; exact rfl; assumption; (repeat (first | exact LSet.z | apply LSet.s)); (repeat (first | exact Snoc.n | apply Snoc.c)); (first | exact (by simp only [List.length_cons,List.length_nil,Nat.zero_add,Nat.reduceAdd] <;> rfl) | exact rfl); (first | exact True.intro | exact ⟨_,rfl,_,rfl,by assumption⟩)) | (apply xan; exact rfl; exact rfl; (first | exact Sr1.n | (apply Sr1.r; exact (fun _ => rfl)) | (apply Sr1.s; exact rfl; (first | exact rfl | exact (by simp only [bK,bJ,List.length_replicate]; done) | exact aV (by assumption) | exact bW (by assumption)))); exact rfl; exact rfl; exact rfl; exact rfl; exact rfl; assumption; (repeat (first | exact Snoc.n | apply Snoc.c)); (repeat (first | exact Snoc.n | apply Snoc.c)); (first | exact (by simp only [List.length_cons,List.length_nil,Nat.zero_add,Nat.reduceAdd] <;> rfl) | exact rfl); (first | exact True.intro | exact ⟨_,rfl,_,rfl,by assumption⟩)) | (apply xaf; exact rfl; exact rfl; exact (fun _ => rfl); (first | exact Sr1.n | (apply Sr1.r; exact (fun _ => rfl)) | (apply Sr1.s; exact rfl; (first | exact rfl | exact (by simp only [bK,bJ,List.length_replicate]; done) | exact aV (by assumption) | exact bW (by assumption)))); (first | exact rfl); exact rfl; exact rfl; exact rfl; exact rfl; exact rfl; assumption; (repeat (first | exact Snoc.n | apply Snoc.c)); (first | exact (by simp only [List.length_cons,List.length_nil,Nat.zero_add,Nat.reduceAdd] <;> rfl) | exact rfl); (first | exact True.intro | exact ⟨_,rfl,_,rfl,by assumption⟩)) | (apply aPm; exact rfl; exact rfl; exact rfl; exact (fun _ => rfl); (first | exact SrK.n | exact SrK.r | (apply SrK.s; exact (fun _ => rfl); exact rfl; (first | exact rfl | exact (by simp only [bK,bJ,List.length_replicate]; done) | exact aV (by assumption) | exact bW (by assumption)))); (first | exact rfl | exact (by simp only [bK,bJ,List.length_replicate]; done) | exact aV (by assumption) | exact bW (by assumption)); exact rfl; exact rfl; exact rfl; exact rfl; exact rfl; assumption; (repeat (first | exact LSet.z | apply LSet.s)); (repeat (first | exact Snoc.n | apply Snoc.c)); (first | exact (by simp only [List.length_cons,List.length_nil,Nat.zero_add,Nat.reduceAdd] <;> rfl) | exact rfl); (first | exact True.intro | exact ⟨_,rfl,_,rfl,by assumption⟩)) | (apply xanK; exact rfl; exact rfl; (first | exact SrK.n | exact SrK.r | (apply SrK.s; exact (fun _ => rfl); exact rfl; (first | exact rfl | exact (by simp only [bK,bJ,List.length_replicate]; done) | exact aV (by assumption) | exact bW (by assumption)))); exact rfl; exact rfl; exact rfl; exact rfl; exact rfl; exact rfl; assumption; (repeat (first | exact Snoc.n | apply Snoc.c)); (repeat (first | exact Snoc.n | apply Snoc.c)); (first | exact (by simp only [List.length_cons,List.length_nil,Nat.zero_add,Nat.reduceAdd] <;> rfl) | exact rfl); (first | exact True.intro | exact ⟨_,rfl,_,rfl,by assumption⟩))) | ((with_reducible apply aMD); first | (apply xmc; (first | exact OfC.i | exact OfC.b | exact OfC.l | exact OfC.s | exact OfC.p); (first | exact True.intro | exact ⟨_,rfl,_,rfl,by assumption⟩)) | (apply xm; exact rfl; (first | exact True.intro | exact ⟨_,rfl,_,rfl,by assumption⟩))) | ((with_reducible apply aLP); first | (apply xl1; exact rfl; exact rfl; exact rfl; exact rfl; (first | exact True.intro | exact ⟨_,rfl,_,rfl,by assumption⟩)) | (apply aPj; exact rfl; exact rfl; (first | assumption | exact m8 (by assumption)); exact rfl; (first | exact True.intro | exact ⟨_,rfl,_,rfl,by assumption⟩)) | (apply xlX; exact rfl; exact rfl; exact rfl; (first | assumption | exact m8 (by assumption)); (first | exact True.intro | exact ⟨_,rfl,_,rfl,by assumption⟩)) | (apply xlN; exact rfl; exact rfl; (first | exact Tak.w rfl | (repeat (first | exact Tak.d | (apply Tak.t; (first | exact IsA.c | exact IsA.a4 | exact IsA.a32 | exact IsA.a8 | exact IsA.a20 | exact IsA.a64); exact rfl) | (apply Tak.s; (first | exact IsA.c | exact IsA.a4 | exact IsA.a32 | exact IsA.a8 | exact IsA.a20 | exact IsA.a64); exact rfl)))); (first | exact True.intro | exact ⟨_,rfl,_,rfl,by assumption⟩)) | (apply aOU; exact rfl; (first | assumption | exact m8 (by assumption)); exact rfl; (first | exact Tak.w rfl | (repeat (first | exact Tak.d | (apply Tak.t; (first | exact IsA.c | exact IsA.a4 | exact IsA.a32 | exact IsA.a8 | exact IsA.a20 | exact IsA.a64); exact rfl) | (apply Tak.s; (first | exact IsA.c | exact IsA.a4 | exact IsA.a32 | exact IsA.a8 | exact IsA.a20 | exact IsA.a64); exact rfl)))); (first | exact True.intro | exact ⟨_,rfl,_,rfl,by assumption⟩)) | (apply xlB; exact rfl; exact rfl; exact rfl; (first | exact rfl | exact (by simp only [bK,bJ,List.length_replicate]; done) | exact aV (by assumption) | exact bW (by assumption)); (first | exact True.intro | exact ⟨_,rfl,_,rfl,by assumption⟩)) | (apply xlA; exact rfl; exact rfl; (first | exact Tak.w rfl | (repeat (first | exact Tak.d | (apply Tak.t; (first | exact IsA.c | exact IsA.a4 | exact IsA.a32 | exact IsA.a8 | exact IsA.a20 | exact IsA.a64); exact rfl) | (apply Tak.s; (first | exact IsA.c | exact IsA.a4 | exact IsA.a32 | exact IsA.a8 | exact IsA.a20 | exact IsA.a64); exact rfl)))); (first | (apply ArM.a32; (first | exact rfl | exact (by simp only [bK,bJ,List.length_replicate]; done) | exact aV (by assumption) | exact bW (by assumption))) | (apply ArM.a4; (first | exact rfl | exact (by simp only [bK,bJ,List.length_replicate]; done) | exact aV (by assumption) | exact bW (by assumption))) | (apply ArM.a8; (first | exact rfl | exact (by simp only [bK,bJ,List.length_replicate]; done) | exact aV (by assumption) | exact bW (by assumption))) | (apply ArM.a20; (first | exact rfl | exact (by simp only [bK,bJ,List.length_replicate]; done) | exact aV (by assumption) | exact bW (by assumption))) | (apply ArM.a64; (first | exact rfl | exact (by simp only [bK,bJ,List.length_replicate]; done) | exact aV (by assumption) | exact bW (by assumption)))); (first | exact True.intro | exact ⟨_,rfl,_,rfl,by assumption⟩)) | (apply xleA; exact rfl; (first | assumption | exact m8 (by assumption)); exact rfl; (first | exact Tak.w rfl | (repeat (first | exact Tak.d | (apply Tak.t; (first | exact IsA.c | exact IsA.a4 | exact IsA.a32 | exact IsA.a8 | exact IsA.a20 | exact IsA.a64); exact rfl) | (apply Tak.s; (first | exact IsA.c | exact IsA.a4 | exact IsA.a32 | exact IsA.a8 | exact IsA.a20 | exact IsA.a64); exact rfl)))); (first | (apply ArM.a32; (first | exact rfl | exact (by simp only [bK,bJ,List.length_replicate]; done) | exact aV (by assumption) | exact bW (by assumption))) | (apply ArM.a4; (first | exact rfl | exact (by simp only [bK,bJ,List.length_replicate]; done) | exact aV (by assumption) | exact bW (by assumption))) | (apply ArM.a8; (first | exact rfl | exact (by simp only [bK,bJ,List.length_replicate]; done) | exact aV (by assumption) | exact bW (by assumption))) | (apply ArM.a20; (first | exact rfl | exact (by simp only [bK,bJ,List.length_replicate]; done) | exact aV (by assumption) | exact bW (by assumption))) | (apply ArM.a64; (first | exact rfl | exact (by simp only [bK,bJ,List.length_replicate]; done) | exact aV (by assumption) | exact bW (by assumption)))); (first | exact True.intro | exact ⟨_,rfl,_,rfl,by assumption⟩))) | ((with_reducible apply aNx); first | (apply xb; exact rfl; exact rfl; exact rfl; (first | exact True.intro | exact ⟨_,rfl,_,rfl,by assumption⟩)) | (apply aOK; exact rfl; exact rfl; assumption; (first | exact True.intro | exact ⟨_,rfl,_,rfl,by assumption⟩)) | (apply aO4; exact rfl; exact rfl; assumption; (first | exact True.intro | exact ⟨_,rfl,_,rfl,by assumption⟩)) | (apply aOD; exact rfl; exact rfl; (first | assumption | exact rfl); (first | exact True.intro | exact ⟨_,rfl,_,rfl,by assumption⟩)) | (apply aOY; exact rfl; exact rfl; (first | assumption | exact rfl); (first | exact True.intro | exact ⟨_,rfl,_,rfl,by assumption⟩)) | (apply xeA; exact rfl; exact rfl; exact rfl; (first | exact rfl | exact (by simp only [bK,bJ,List.length_replicate]; done) | exact aV (by assumption) | exact bW (by assumption)); (first | exact rfl | exact (by simp only [bK,bJ,List.length_replicate]; done) | exact aV (by assumption) | exact bW (by assumption)); (first | exact True.intro | exact ⟨_,rfl,_,rfl,by assumption⟩)) | (apply xnA; exact rfl; exact rfl; exact rfl; (first | exact rfl | exact (by simp only [bK,bJ,List.length_replicate]; done) | exact aV (by assumption) | exact bW (by assumption)); (first | exact rfl | exact (by simp only [bK,bJ,List.length_replicate]; done) | exact aV (by assumption) | exact bW (by assumption)); (first | exact True.intro | exact ⟨_,rfl,_,rfl,by assumption⟩))) | ((with_reducible apply aOm); first | (apply xfp; exact rfl; (first | (with_reducible exact Nat.zero_add _) | exact rfl); (first | exact True.intro | exact ⟨_,rfl,_,rfl,by assumption⟩)) | (apply xfe; exact rfl; (first | (with_reducible exact Nat.zero_add _) | exact rfl); (first | exact True.intro | exact ⟨_,rfl,_,rfl,by assumption⟩))) | ((with_reducible apply aND); first | (apply xac; (first | exact OfC.i | exact OfC.b | exact OfC.l | exact OfC.s | exact OfC.p); (first | exact True.intro | exact ⟨_,rfl,_,rfl,by assumption⟩)) | (apply xa; exact rfl; (first | exact True.intro | exact ⟨_,rfl,_,rfl,by assumption⟩))) | (apply xe; exact rfl; exact rfl; (first | exact True.intro | exact ⟨_,rfl,_,rfl,by assumption⟩)) | ((with_reducible apply aOf); first | (apply xiR; exact rfl; exact rfl; exact rfl; (first | assumption | exact m8 (by assumption)); (first | exact True.intro | exact ⟨_,rfl,_,rfl,by assumption⟩)) | (apply xiS; exact rfl; exact rfl; exact rfl; (first | assumption | exact m8 (by assumption)); (first | exact rfl | exact (by simp only [bK,bJ,List.length_replicate]; done) | exact aV (by assumption) | exact bW (by assumption)); exact rfl; (first | exact True.intro | exact ⟨_,rfl,_,rfl,by assumption⟩)) | (apply xiB; exact rfl; exact rfl; exact rfl; assumption; exact rfl; (first | exact True.intro | exact ⟨_,rfl,_,rfl,by assumption⟩)) | (apply xiK; exact rfl; exact rfl; exact rfl; (first | assumption | exact m8 (by assumption)); (first | exact rfl | exact (by simp only [bK,bJ,List.length_replicate]; done) | exact aV (by assumption) | exact bW (by assumption)); exact rfl; (first | exact True.intro | exact ⟨_,rfl,_,rfl,by assumption⟩))) | (apply xci; exact rfl; (first | exact True.intro | exact ⟨_,rfl,_,rfl,by assumption⟩)) | ((with_reducible apply aOb); first | (apply xsA; exact rfl; exact rfl; exact rfl; exact rfl; exact (fun _ => rfl); (first | exact rfl | exact (by simp only [bK,bJ,List.length_replicate]; done) | exact aV (by assumption) | exact bW (by assumption)); (first | exact rfl | exact (by simp only [bK,bJ,List.length_replicate]; done) | exact aV (by assumption) | exact bW (by assumption)); (repeat (first | exact LSet.z | apply LSet.s)); (first | exact True.intro | exact ⟨_,rfl,_,rfl,by assumption⟩)) | (apply xs; exact rfl; exact rfl; exact rfl; (first | exact Cel.a rfl | exact Cel.o rfl rfl | exact Cel.m (fun _ => rfl)); exact rfl; exact rfl; (first | exact Spl.w rfl | (repeat (first | exact Spl.d | (apply Spl.p; (first | exact IsA.c | exact IsA.a4 | exact IsA.a32 | exact IsA.a8 | exact IsA.a20 | exact IsA.a64); (first | exact IsA.c | exact IsA.a4 | exact IsA.a32 | exact IsA.a8 | exact IsA.a20 | exact IsA.a64)) | (apply Spl.s; (first | exact IsA.c | exact IsA.a4 | exact IsA.a32 | exact IsA.a8 | exact IsA.a20 | exact IsA.a64); exact rfl)))); (repeat (first | exact LSet.z | apply LSet.s)); (first | exact True.intro | exact ⟨_,rfl,_,rfl,by assumption⟩)) | (apply xsX; exact rfl; exact rfl; exact rfl; exact rfl; (first | assumption | exact m8 (by assumption)); exact rfl; exact rfl; (repeat (first | exact LSet.z | apply LSet.s)); (first | exact True.intro | exact ⟨_,rfl,_,rfl,by assumption⟩))) | ((with_reducible apply aNZ); first | (apply aPd; exact rfl; (repeat (first | exact Snoc.n | apply Snoc.c)); (first | exact (by simp only [List.length_cons,List.length_nil,Nat.zero_add,Nat.reduceAdd] <;> rfl) | exact rfl); (first | exact True.intro | exact ⟨_,rfl,_,rfl,by assumption⟩)) | (apply xal; (first | (apply Zro.o; (first | exact OfC.i | exact OfC.b | exact OfC.l | exact OfC.s | exact OfC.p)) | (apply Zro.a; repeat (first | exact OfCs.n | (apply OfCs.c; (first | exact OfC.i | exact OfC.b | exact OfC.l | exact OfC.s | exact OfC.p))))); (repeat (first | exact Snoc.n | apply Snoc.c)); (first | exact (by simp only [List.length_cons,List.length_nil,Nat.zero_add,Nat.reduceAdd] <;> rfl) | exact rfl); (first | exact True.intro | exact ⟨_,rfl,_,rfl,by assumption⟩))) | (apply xbx; exact rfl; (first | exact Cel.a rfl | exact Cel.o rfl rfl | exact Cel.m (fun _ => rfl)); (repeat (first | exact Snoc.n | apply Snoc.c)); (first | exact (by simp only [List.length_cons,List.length_nil,Nat.zero_add,Nat.reduceAdd] <;> rfl) | exact rfl); (first | exact True.intro | exact ⟨_,rfl,_,rfl,by assumption⟩)) | ((with_reducible apply aOe); first | (apply aPo; exact rfl; (repeat (first | exact NumK.n | apply NumK.c)); exact rfl; exact rfl; exact rfl; exact rfl; (repeat (first | exact Snoc.n | apply Snoc.c)); (first | exact (by simp only [List.length_cons,List.length_nil,Nat.zero_add,Nat.reduceAdd] <;> rfl) | exact rfl); (first | exact True.intro | exact ⟨_,rfl,_,rfl,by assumption⟩)) | (apply aO9; exact rfl; (repeat (first | exact NumR.n | apply NumR.z | apply NumR.c)); exact rfl; exact rfl; exact rfl; exact rfl; (repeat (first | exact Snoc.n | apply Snoc.c)); (first | exact (by simp only [List.length_cons,List.length_nil,Nat.zero_add,Nat.reduceAdd] <;> rfl) | exact rfl); (first | exact True.intro | exact ⟨_,rfl,_,rfl,by assumption⟩)) | (apply aOz; exact rfl; (repeat (first | exact NumB.n | apply NumB.c)); exact rfl; exact rfl; exact rfl; exact rfl; (repeat (first | exact Snoc.n | apply Snoc.c)); (first | exact (by simp only [List.length_cons,List.length_nil,Nat.zero_add,Nat.reduceAdd] <;> rfl) | exact rfl); (first | exact True.intro | exact ⟨_,rfl,_,rfl,by assumption⟩))) | ((with_reducible apply aN3); first | (apply xsM; exact rfl; exact rfl; exact rfl; exact rfl; exact rfl; assumption; exact rfl; (first | exact True.intro | exact ⟨_,rfl,_,rfl,by assumption⟩))) | ((with_reducible apply aNU); first | (apply xsR; exact rfl; exact rfl; exact rfl; exact rfl; exact rfl; assumption; exact rfl; exact rfl; (first | exact True.intro | exact ⟨_,rfl,_,rfl,by assumption⟩)) | (apply xsL; exact rfl; exact rfl; exact rfl; exact rfl; (first | exact rfl | exact (by simp only [bK,bJ,List.length_replicate]; done) | exact aV (by assumption) | exact bW (by assumption)); exact rfl; exact rfl; (first | exact True.intro | exact ⟨_,rfl,_,rfl,by assumption⟩)) | (apply xsE; exact rfl; exact rfl; exact rfl; (first | exact rfl | exact (by simp only [bK,bJ,List.length_replicate]; done) | exact aV (by assumption) | exact bW (by assumption)); exact rfl; (first | exact True.intro | exact ⟨_,rfl,_,rfl,by assumption⟩))) | (apply xno; exact rfl; (first | exact True.intro | exact ⟨_,rfl,_,rfl,by assumption⟩)) | (apply xbd; exact rfl; (first | (apply Zro.o; (first | exact OfC.i | exact OfC.b | exact OfC.l | exact OfC.s | exact OfC.p)) | (apply Zro.a; repeat (first | exact OfCs.n | (apply OfCs.c; (first | exact OfC.i | exact OfC.b | exact OfC.l | exact OfC.s | exact OfC.p))))); (repeat (first | exact Fil.n | (apply Fil.c; exact rfl; (first | exact Cel.a rfl | exact Cel.o rfl rfl | exact Cel.m (fun _ => rfl)); exact rfl; exact rfl; (first | exact Spl.w rfl | (repeat (first | exact Spl.d | (apply Spl.p; (first | exact IsA.c | exact IsA.a4 | exact IsA.a32 | exact IsA.a8 | exact IsA.a20 | exact IsA.a64); (first | exact IsA.c | exact IsA.a4 | exact IsA.a32 | exact IsA.a8 | exact IsA.a20 | exact IsA.a64)) | (apply Spl.s; (first | exact IsA.c | exact IsA.a4 | exact IsA.a32 | exact IsA.a8 | exact IsA.a20 | exact IsA.a64); exact rfl))))))); (first | exact True.intro | exact ⟨_,rfl,_,rfl,by assumption⟩)) | (apply xfd; exact rfl; exact rfl; exact rfl; exact rfl; (first | exact True.intro | exact ⟨_,rfl,_,rfl,by assumption⟩)) | ((with_reducible apply aN4); first | (apply xpT; exact rfl; (first | assumption | exact rfl); exact rfl; (first | exact True.intro | exact ⟨_,rfl,_,rfl,by assumption⟩)) | (apply xpF; exact rfl; (first | assumption | exact rfl); exact rfl; (first | exact True.intro | exact ⟨_,rfl,_,rfl,by assumption⟩))) | ((with_reducible apply aOp); first | (apply xnp; exact rfl; (first | exact True.intro | exact ⟨_,rfl,_,rfl,by assumption⟩)) | (apply xne; exact rfl; (first | exact True.intro | exact ⟨_,rfl,_,rfl,by assumption⟩))) | (apply xVv; exact rfl; exact rfl) | (apply xXx; exact rfl; exact rfl; assumption)) | apply OpsX.nil | ((with_reducible apply isA); first | ((with_reducible apply xqn); exact rfl) | (with_reducible apply AB.skip) | ((with_reducible apply xrn); exact rfl) | (with_reducible apply AB.ret) | (with_reducible apply AB.exit)) | (with_reducible apply Ex.then_mk) | (with_reducible apply Ex.inBlock_mk) | (with_reducible apply Ex.then_exit_mk) | (with_reducible apply Ex.inBlock_same_mk) | ((with_reducible apply Ex.inBlock_other_mk); exact rfl) | (with_reducible apply Ex.then_ret_mk) | (with_reducible apply Ex.inBlock_ret_mk))); exact kk.1)) : p := h ⟨k⟩
theorem Conv.ptr {α : Type} {E : α → V} {l : List α} {h h' : Hp} (hs : Sub h h') {b : Nat} {e : TypeId} (hb : h[b]? = some (some ⟨e,l.map E⟩)) (hb' : h'[b]? = some none) (hsh : ∀ x,(E x).shut = true) (hn : 0 < l.length) : Conv h h' (.ptr b 0) (.eptr [.agg (l.map E)] 0 0) := by
 intro A M w v H hv
 obtain ⟨hone,_⟩ := H.blk b _ hb
 unfold VR at hv ⊢
 obtain ⟨g,sh,hm,rfl,hshp⟩ := hv
 obtain ⟨_,⟨hm',_⟩ | ⟨g',aS,hm',hA,_⟩⟩ := H.blk b _ hb
 ·rw [hm] at hm'; cases hm'
 rw [hm] at hm'
 injection hm' with hm'
 injection hm' with hm'
 subst hm'
 obtain ⟨vs,hvs,hl⟩ := aBh H hb hm hshp 0
 rw [List.drop_zero] at hvs
 have hX : ¬ Xs A M h' g := by
  rintro (ha | ⟨c,C,hc,hmc⟩)
  ·exact hA ha
  ·obtain ⟨C',hc'⟩ := hs c C hc
   have := H.inj c b C' _ g hc' hb hmc hm
   subst this
   rw [hb'] at hc; cases hc
 have hc2 : VCells (Xs A M h') [] w (l.map E) vs := VCells.mk hvs.len fun i c u hc hu => by
  obtain ⟨u',hu',hr⟩ := hvs.get hc
  rw [hu] at hu'
  injection hu' with hu'
  subst hu'
  have : c.shut = true := by
   rw [List.getElem?_map] at hc
   cases hq : l[i]? with
   | none => rw [hq] at hc; cases hc
   | some y => rw [hq] at hc; injection hc with hc; subst hc; exact hsh y
  exact (hr.shut this).avoid (fun _ _ hx => hs.xs hx)
 refine ⟨⟨g,0,none⟩,l.length, ?_,hn,fun _ => hX,rfl, ?_, ?_⟩
 ·simp [Addr.add]
 ·intro e' he'
  rw [List.mem_singleton] at he'
  subst he'
  simp only [V.okElem,V.flatOk,V.cells,Bool.and_eq_true,beq_iff_eq,List.length_map,and_true]
  exact List.all_eq_true.2 hone
 ·unfold VRow
  refine ⟨⟨.agg vs.toArray,by unfold VR; exact ⟨vs,rfl,hc2⟩, ?_, ?_⟩,by unfold VRow; trivial⟩
  ·show vs.toArray.size = l.length
   rw [List.size_toArray,← hvs.len,List.length_map]
  ·exact hl
inductive PCv (h h' : Hp) : List (Nat × V) → List (Nat × V) → Prop
 | n : PCv h h' [] []
 | s {t : Nat} {x : V} {fr fr' : List (Nat × V)} : PCv h h' fr fr' → PCv h h' ((t,x) :: fr) ((t,x) :: fr')
 | r {t b q : Nat} {e : TypeId} {cs : List V} {ag : Bool} {fr fr' : List (Nat × V)} : h[b]? = some (some ⟨e,cs⟩) → h'[b]? = some none → cs.all V.shut = true → q = cs.length → PCv h h' fr fr' → PCv h h' ((t,.sl b 0 q 1 ag) :: fr) ((t,.row none 1 cs) :: fr')
 | p {α : Type} {E : α → V} {l : List α} {t b : Nat} {e : TypeId} {fr fr' : List (Nat × V)} : h[b]? = some (some ⟨e,l.map E⟩) → h'[b]? = some none → (∀ x,(E x).shut = true) → Nat.ble 1 l.length = true → PCv h h' fr fr' → PCv h h' ((t,.ptr b 0) :: fr) ((t,.eptr [.agg (l.map E)] 0 0) :: fr')
 | k {α : Type} {C : α → List V} {K : Nat} {l : List α} {t b q : Nat} {e : TypeId} {fr fr' : List (Nat × V)} : h[b]? = some (some ⟨e,l.flatMap C⟩) → h'[b]? = some none → (∀ x,(C x).length = K) → (∀ x,(C x).all V.one = true) → (∀ x,(C x).all V.shut = true) → q = l.length → PCv h h' fr fr' → PCv h h' ((t,.sl b 0 q K true) :: fr) ((t,.row none K (l.map fun x => V.agg (C x))) :: fr')
theorem PCv.get {h h' : Hp} (hs : Sub h h') {fr fr' : List (Nat × V)} (p : PCv h h' fr fr') : ∀ (t : Nat) (y : V),fL fr' t = some y → ∃ x,fL fr t = some x ∧ Conv h h' x y := by
 induction p with
 | n => intro t y hy; cases hy
 | @s u x fr fr' _ ih =>
  intro t y hy
  simp only [fL] at hy ⊢
  cases hb : Nat.beq u t with
  | true => rw [hb] at hy; simp only [cond_true,Option.some.injEq] at hy ⊢; subst hy; exact ⟨x,rfl,Conv.same hs⟩
  | false => rw [hb] at hy; exact ih t y hy
 | @r u b q e cs ag fr fr' h1 h2 h3 h4 _ ih =>
  intro t y hy
  simp only [fL] at hy ⊢
  cases hb : Nat.beq u t with
  | true => rw [hb] at hy; simp only [cond_true,Option.some.injEq] at hy ⊢; subst hy; exact ⟨_,rfl,Conv.row hs h1 h2 h3 h4⟩
  | false => rw [hb] at hy; exact ih t y hy
 | @p α E l u b e fr fr' h1 h2 h3 h4 _ ih =>
  intro t y hy
  simp only [fL] at hy ⊢
  cases hb : Nat.beq u t with
  | true => rw [hb] at hy; simp only [cond_true,Option.some.injEq] at hy ⊢; subst hy; exact ⟨_,rfl,Conv.ptr hs h1 h2 h3 (Nat.le_of_ble_eq_true h4)⟩
  | false => rw [hb] at hy; exact ih t y hy
 | @k α C K l u b q e fr fr' h1 h2 h3 h4 h5 h6 _ ih =>
  intro t y hy
  simp only [fL] at hy ⊢
  cases hb : Nat.beq u t with
  | true => rw [hb] at hy; simp only [cond_true,Option.some.injEq] at hy ⊢; subst hy; exact ⟨_,rfl,Conv.rowK h3 h4 h5 hs h1 h2 h6⟩
  | false => rw [hb] at hy; exact ih t y hy
theorem Ghost.fz {N n b : Nat} {fr fr' : List (Nat × V)} {h h' : Hp} (he : h.set b none = h') (hp : PCv h h' fr fr') : Ghost N (aE n fr) h (aE n fr') h' := by
 subst he
 have hg : ∀ {j : Nat} {B : Blk},(h.set b none)[j]? = some (some B) → h[j]? = some (some B) := by
  intro j B hj
  by_cases hij : b = j
  ·subst hij
   rw [List.getElem?_set] at hj
   split at hj
   ·split at hj <;> cases hj
   ·rename_i hne; exact absurd rfl hne
  ·rwa [List.getElem?_set_ne hij] at hj
 have hs : Sub h (h.set b none) := fun j B hj => ⟨B,hg hj⟩
 intro A M a w hN R
 refine ⟨M,rfl,⟨⟨by rw [List.length_set]; exact R.hr.len,R.hr.alt, ?_, ?_,R.hr.glob.avoid fun g _ hx => hx.elim .inl (fun hl => .inr (hs.live hl))⟩, ?_,R.defers⟩,fun g hl => hs.live hl⟩
 ·intro j B hj
  obtain ⟨h1,h2⟩ := R.hr.blk j B (hg hj)
  refine ⟨h1, ?_⟩
  rcases h2 with ⟨hn,hc0⟩ | ⟨g,cs,hgm,hA,hw,hle,hcs⟩
  ·exact .inl ⟨hn,hc0⟩
  ·exact .inr ⟨g,cs,hgm,hA,hw,hle,hcs.avoid (fun g _ hx => hs.xs hx)⟩
 ·intro i j B C g hi hj mi mj
  exact R.hr.inj i j B C g (hg hi) (hg hj) mi mj
 ·exact aCP R.sr (fun t y hy => by
   obtain ⟨x,hx,hl⟩ := hp.get hs t y hy
   exact ⟨x,hx,fun v hv => hl A M w v R.hr hv⟩)
theorem zv {N n : Nat} {fr fr' : List (Nat × V)} {h h' : Hp} (b : Nat) (he : LSet h b none h' := by (repeat (first | exact LSet.z | apply LSet.s)))
  (hp : PCv h h' fr fr' := by (repeat (first | exact PCv.n | (apply PCv.p; exact rfl; exact rfl; exact (fun _ => rfl); (first | exact rfl | exact aLL (by assumption) rfl | exact arp_pos (by assumption) rfl)) | (apply PCv.r; exact rfl; exact rfl; exact eJ (fun _ => rfl); (first | exact rfl | exact (by rw [List.length_map]; first | exact (aV (by assumption)).symm | exact (bW (by assumption)).symm) | exact (by simp only [List.length_map,bK,bJ]; done))) | (apply PCv.k; exact rfl; exact rfl; exact (fun _ => rfl); exact (fun _ => rfl); exact (fun _ => rfl); (first | exact rfl | exact (by simp only [bK,bJ]))) | apply PCv.s))) : Ghost N (aE n fr) h (aE n fr') h' := Ghost.fz he.eq hp
theorem aNW {vn : Nat → Bool} {f : Nat → Nat} {c d : V} {cs ds : List V} (h : V.le vn c (d.rn f)) (k : V.les vn cs (V.rns f ds)) : V.les vn (c :: cs) (V.rns f (d :: ds)) := by
 simp only [V.rns]; exact V.les_cons h k
theorem lev {p : Prop} (h : p := by (repeat (first | exact V.les_refl _ _ | exact V.les_nil | exact V.le_refl _ _ | exact V.le_nil | exact V.le_row | exact V.le_arr (fun _ => rfl) | exact V.le_virt rfl | exact aA0 (fun _ => rfl) _ | exact aAe (fun _ => rfl) _ | apply aNW | apply les_b32 | apply les_b4 | apply les_b8 | apply les_b20 | apply les_b64 | apply le_a | apply le_t | exact (by simp only [bK,bJ]; exact V.le_refl _ _)))) : p := h
theorem aHs {p : Prop} (h : p := by first | exact rfl | exact all_map (fun _ => rfl) _ | exact mQ (fun _ => rfl) _) : p := h
theorem lT {N n : Nat} {fr fr' : List (Nat × V)} {h h' : Hp} (σ : List Nat)
  (hf : FLe v9 (V.rn (sg σ h.length)) fr fr' := by (repeat (first | exact FLe.nil | refine FLe.same rfl ?_ | refine FLe.le rfl lev ?_)))
  (hh : HLe (sg σ h.length) h σ h' := by (repeat (first | exact HLe.nil | refine HLe.dead ?_ | refine HLe.live rfl lev aHs ?_)))
  (hσ : σ.take N = List.range N := by rfl) (hlt : σ.all (fun b => Nat.blt b h.length) = true := by rfl) (hnd : ndB (lvs σ h') = true := by rfl) : Ghost N (aE n fr) h (aE n fr') h' := Ghost.rn σ hσ hlt hf hh hnd
theorem FLe.mapg {vn : Nat → Bool} {g : V → V} {fr : List (Nat × V)} : ∀ {fr' : List (Nat × V)},FLe vn g fr fr' → FLe vn id fr (fr'.map fun p => (p.1,g p.2))
 | [],_ => FLe.nil
 | (t,y) :: r,h => ⟨h.1,FLe.mapg h.2⟩
theorem aGq {g : V → V} : ∀ {fr : List (Nat × V)} {t : Nat} {y : V},fL fr t = some y → fL (fr.map fun p => (p.1,g p.2)) t = some (g y)
 | [],_,_,h => by cases h
 | (u,x) :: r,t,y,h => by
  simp only [fL,List.map_cons] at h ⊢
  cases hb : Nat.beq u t with
  | true => rw [hb] at h; simp only [cond_true,Option.some.injEq] at h ⊢; rw [h]
  | false => rw [hb] at h; exact aGq h
theorem FLe.ofmap {g : V → V} {L : List (Nat × V)} : ∀ {fr : List (Nat × V)},(∀ t y,(t,y) ∈ fr → fL L t = some y) → FLe v9 g (L.map fun p => (p.1,g p.2)) fr
 | [],_ => FLe.nil
 | (t,y) :: r,h => FLe.same (aGq (h t y (by simp))) (FLe.ofmap fun u z hz => h u z (by simp [hz]))
def aB5 : List (Nat × V) → List (Nat × V) → Bool
 | _,[] => true
 | L,(t,_) :: r => !((r.map (·.1)).elem t) && aB5 L r
theorem aJv : ∀ {L : List (Nat × V)},aB5 L L = true → ∀ t y,(t,y) ∈ L → fL L t = some y := by
 have key : ∀ {K L : List (Nat × V)},aB5 K L = true → ∀ t y,(t,y) ∈ L → fL L t = some y := by
  intro K L
  induction L with
  | nil => intro _ t y h; cases h
  | cons p r ih =>
   obtain ⟨u,x⟩ := p
   intro h t y hm
   simp only [aB5,Bool.and_eq_true,Bool.not_eq_true'] at h
   simp only [fL]
   rcases List.mem_cons.1 hm with he | hm
   ·cases he; simp
   ·have : u ≠ t := fun he => by
     subst he
     have h1 : (r.map (·.1)).elem u = true := List.elem_eq_true_of_mem (List.mem_map.2 ⟨_,hm,rfl⟩)
     rw [h1] at h; exact absurd h.1 (by simp)
    have hb : Nat.beq u t = false := by
     cases hb : Nat.beq u t with
     | true => exact absurd (Nat.eq_of_beq_eq_true hb) this
     | false => rfl
    rw [hb]; exact ih h.2 t y hm
 exact fun {L} h => key h
theorem zW {N n : Nat} {fr fr' : List (Nat × V)} {h h' : Hp} (e : TypeId) (σ : List Nat)
  (hf : FLe (fun b => Nat.beq b h.length) (V.rn (sg σ (h ++ [some (Blk.mk e [])]).length)) fr fr' := by (repeat (first | exact FLe.nil | refine FLe.same rfl ?_ | refine FLe.le rfl lev ?_)))
  (h1 : HLv (fun b => Nat.beq b h.length) h h := by (repeat (first | exact HLv.nil | refine HLv.dead ?_ | refine HLv.live (V.les_refl _ _) aHs ?_)))
  (hh : HLe (sg σ (h ++ [some (Blk.mk e [])]).length) (h ++ [some (Blk.mk e [])]) σ h' := by (repeat (first | exact HLe.nil | refine HLe.dead ?_ | refine HLe.live rfl lev aHs ?_)))
  (hσ : σ.take N = List.range N := by rfl) (hlt : σ.all (fun b => Nat.blt b (h ++ [some (Blk.mk e [])]).length) = true := by rfl) (hnd : ndB (lvs σ h') = true := by rfl) (hk : aB5 fr' fr' = true := by rfl) : Ghost N (aE n fr) h (aE n fr') h' :=
 Ghost.trans (Ghost.virt e hf.mapg h1) (Ghost.rn σ hσ hlt (FLe.ofmap (aJv hk)) hh hnd)
section
variable {P : Program} {fn : Func} {n N : Nat} {fr : List (Nat × V)} {s : List V} {h h' : Hp} {r a b c x : V} {o p : Nat} {e : TypeId} {cs ds : List V} {t u w : Nat} {ty : TypeId}
inductive RsV (P : Program) (n : Nat) (fr : List (Nat × V)) (h : Hp) : ResultVar → V → Prop
 | t {t : Nat} {x : V} : bI n fr (.tmp t) = some x → RsV P n fr h (.tmp t) x
 | c {t i o : Nat} {ty : TypeId} {v : V} : bI n fr (.tmp t) = some (.ptr i o) → d9 P ty h (.ptr i o) = some v → RsV P n fr h (.cell t ty) v
theorem RsV.eq {q : ResultVar} (hr : RsV P n fr h q x) : kA P (aE n fr) h q = some x := by
 cases hr with
 | t h1 => exact rvT h1
 | c h1 h2 => exact rvC h1 h2
theorem lvN {fs : Array Field} {sz by_ : Nat} {zz : Value} [T : TiC P ty ⟨.struct fs,sz,by_,zz⟩] (hb : h[o]? = some (some ⟨e,cs⟩)) (hc : Tak cs p sz ds) : d9 P ty h (.ptr o p) = some (.agg ds) := ldP hb (aAp T.h rfl hc.eq.2 hc.eq.1)
theorem lvB {α : Type} {E : α → V} {ml : List α} {N' sz by_ : Nat} {zz : Value} {w : TypeId} [T : TiC P ty ⟨.array N' w,sz,by_,zz⟩] (hb : h[o]? = some (some ⟨e,ml.map E⟩)) (hz : sz = N') (hl : ml.length = N') : d9 P ty h (.ptr o 0) = some (.agg (ml.map E)) := vQ T.h hz hb hl
theorem eY {q : ResultVar} (hr : fn.results = #[q]) (ha : RsV P n fr h q a) (hg : Ghost N (aE 1 [(0,a)]) h (aE 1 [(0,r)]) h') : z4 P fn N r h' .ret (aE n fr) h := wB (aNy hr ha.eq) hg
theorem nQ {q q' : ResultVar} (hr : fn.results = #[q,q']) (ha : RsV P n fr h q a) (hb : RsV P n fr h q' b) (hg : Ghost N (aE 1 [(0,.tup [a,b])]) h (aE 1 [(0,r)]) h') : z4 P fn N r h' .ret (aE n fr) h := wB (a9 hr ha.eq hb.eq) hg
theorem rN {q q' q'' : ResultVar} (hr : fn.results = #[q,q',q'']) (ha : RsV P n fr h q a) (hb : RsV P n fr h q' b) (hc : RsV P n fr h q'' c) (hg : Ghost N (aE 1 [(0,.tup [a,b,c])]) h (aE 1 [(0,r)]) h') : z4 P fn N r h' .ret (aE n fr) h := wB (tH hr ha.eq hb.eq hc.eq) hg
theorem zn0 (hr : fn.results = #[]) (hg : Ghost N (aE 1 [(0,.tup [])]) h (aE 1 [(0,r)]) h') : z4 P fn N r h' .normal s h := aJ0 (aOu hr) hg
end
theorem aW {p : Prop} (h : p := by first | exact RsV.t rfl | (apply RsV.c; exact rfl; first | (apply lv1; exact rfl; exact rfl; exact rfl) | (apply lvB; exact rfl; exact rfl; first | exact rfl | exact aV (by assumption) | exact bW (by assumption)) | (apply lvN; exact rfl; exact Tak.w rfl))) : p := h
end Go.Vm
set_option maxRecDepth 20000
set_option maxHeartbeats 1000000
namespace Go.Proofs.YtnllpckhipmpgaaGreatDoor
open Go Go.Vm
structure aM where
 Code : Int
 Data : List Int
 M : Int
 N : Int
abbrev bU (x : aM) : List V := [(eI .i64 x.Code),(.row none 1 (x.Data.map (eI .u8))),(eI .i64 x.M),(eI .i64 x.N)]
abbrev rJ (x : aM) : V := .agg (bU x)
@[simp] theorem f8 {f : Nat → Nat} (l : List aM) : V.rns f (l.flatMap bU) = l.flatMap bU := i8 (fun _ => rfl) l
@[simp] theorem gE {f : Nat → Nat} (x : aM) : V.rns f (bU x) = bU x := rfl
structure aG where
 outer : Bool
 taken : Bool
abbrev aL (x : aG) : List V := [(eB x.outer),(eB x.taken)]
@[simp] theorem cP {f : Nat → Nat} (l : List aG) : V.rns f (l.flatMap aL) = l.flatMap aL := i8 (fun _ => rfl) l
@[simp] theorem cQ {f : Nat → Nat} (x : aG) : V.rns f (aL x) = aL x := rfl
structure aR where
 reached : Bool
 done : Bool
abbrev aZ (x : aR) : List V := [(eB x.reached),(eB x.done)]
abbrev z7 (x : aR) : V := .agg (aZ x)
@[simp] theorem bQ {f : Nat → Nat} (l : List aR) : V.rns f (l.flatMap aZ) = l.flatMap aZ := i8 (fun _ => rfl) l
@[simp] theorem bP {f : Nat → Nat} (x : aR) : V.rns f (aZ x) = aZ x := rfl
def nE (N : Nat) (x2 : Bool) : Option Bool :=
 some x2
def rL (N : Nat) (code : Int) : Option Bool :=
 if decide (1 ≤ code) then
  nE N (decide (code ≤ 17))
 else
  nE N false
def yQ (N : Nat) (l0 : List Int) : Option (List Int) :=
 some l0
def jW (N : Nat) (parts : List (List Int)) : Nat → Int → (List Int) → Option (List Int)
 | 0,_,_ => none
 | m + 1,x8,aK =>
  if decide (x8 < (parts.length : Int)) then
   (bS parts x8).bind fun b8 =>
   (eZ 1 aK b8).bind fun bC =>
   (jW N parts m) (IntKind.i64.wrap (x8 + 1)) bC
  else
   some aK
def pZ (N : Nat) (parts : List (List Int)) : Option (List Int) :=
 (jW N parts N 0 []).bind fun p2 =>
 yQ N p2
def hZ (N : Nat) (x4 : Bool) : Option Bool :=
 some x4
def pF (N : Nat) (vm : Int) (vn : Int) : Option Bool :=
 if decide (1 ≤ vn) then
  if decide (vn ≤ 15) then
   if decide (1 ≤ vm) then
    hZ N (decide (vm ≤ vn))
   else
    hZ N false
  else
   hZ N false
 else
  hZ N false
def kI (N : Nat) (x8 : Int) (b_1 : List Int) (c1 : Int) (wR : Int) (l2 : List Int) : Option (Int × (List Int) × Int × Int × (List Int) × Int) :=
 some (IntKind.i64.wrap x8,l2,c1,wR,b_1,0)
def pP (N : Nat) (x8 : Int) (x18 : List Int) (x35 : Bool) : Option (Int × (List Int) × Int × Int × (List Int) × Int) :=
 if x35 then
  some (0,[],0,0,[],1)
 else
  (bS x18 0).bind fun x38 =>
  (sub x18 1 (IntKind.i64.wrap (1 + (IntKind.i64.wrap x38)))).bind fun x44 =>
  (pZ N [x44]).bind fun x46 =>
  (sub x18 (IntKind.i64.wrap (1 + (IntKind.i64.wrap x38))) (x18.length : Int)).bind fun x49 =>
  kI N x8 x49 0 0 x46
def tW (N : Nat) (b : List Int) : Option (Int × (List Int) × Int × Int × (List Int) × Int) :=
 (bS b 0).bind fun x8 =>
 (rL N (IntKind.i64.wrap x8)).bind fun bC =>
 if !bC then
  some (0,[],0,0,[],80)
 else
  (sub b 1 (b.length : Int)).bind fun x18 =>
  if (IntKind.i64.wrap x8) == 1 then
   if (x18.length : Int) == 0 then
    pP N x8 x18 true
   else
    (bS x18 0).bind fun dL =>
    pP N x8 x18 (decide ((IntKind.i64.wrap ((x18.length : Int) - 1)) < (IntKind.i64.wrap dL)))
  else
   if (IntKind.i64.wrap x8) == 11 then
    if decide ((x18.length : Int) < 2) then
     some (0,[],0,0,[],1)
    else
     (bS x18 0).bind fun x58 =>
     (bS x18 1).bind fun x62 =>
     (sub x18 2 (x18.length : Int)).bind fun x66 =>
     (pF N (IntKind.i64.wrap x58) (IntKind.i64.wrap x62)).bind fun x73 =>
     if !x73 then
      some (0,[],0,0,[],5)
     else
      kI N x8 x66 (IntKind.i64.wrap x58) (IntKind.i64.wrap x62) []
   else
    kI N x8 x18 0 0 []
def vR (N : Nat) (l0 : List aM) : Option ((List aM) × Int) :=
 some (l0,0)
def jD (N : Nat) : Nat → (List Int) → (List aM) → Option (LR ((List aM)) ((List aM) × Int))
 | 0,_,_ => none
 | m + 1,b_1,aK =>
  if decide (0 < (b_1.length : Int)) then
   (tW N b_1).bind fun x16 =>
   if x16.2.2.2.2.2 != 0 then
    some (.ret ([],x16.2.2.2.2.2))
   else
    (eZ 48 aK [(aM.mk x16.1 x16.2.1 x16.2.2.1 x16.2.2.2.1)]).bind fun x26 =>
    (jD N m) x16.2.2.2.2.1 x26
  else
   some (.brk aK)
def rD (N : Nat) (b : List Int) : Option ((List aM) × Int) :=
 if decide (520 < (b.length : Int)) then
  some ([],4)
 else
  (jD N N b []).bind fun q => match q with
   | .ret v => some v
   | .brk p2 =>
    vR N p2
def uM (N : Nat) (l0 : List Bool) : Option Bool :=
 some ((l0.length : Int) == 0)
def iS (N : Nat) (l : List aM) (x9 : Int) (rec : Int → (List Bool) → Option (LR ((List Bool)) (Bool))) (iP : List Bool) : Option (LR ((List Bool)) (Bool)) :=
 rec (IntKind.i64.wrap (x9 + 1)) iP
def mJ (N : Nat) (l : List aM) (x9 : Int) (aK : List Bool) (rec : Int → (List Bool) → Option (LR ((List Bool)) (Bool))) (pK : Bool) : Option (LR ((List Bool)) (Bool)) :=
 if pK then
  some (.ret false)
 else
  (bS aK (IntKind.i64.wrap ((aK.length : Int) - 1))).bind fun x35 =>
  iS N l x9 rec (aK.set (Int.toNat (IntKind.i64.wrap ((aK.length : Int) - 1))) true)
def cW (N : Nat) (l : List aM) : Nat → Int → (List Bool) → Option (LR ((List Bool)) (Bool))
 | 0,_,_ => none
 | m + 1,x9,aK =>
  if decide (x9 < (l.length : Int)) then
   (bS l x9).bind fun bX =>
   if bX.Code == 14 then
    (eZ 1 aK [false]).bind fun bN =>
    iS N l x9 (cW N l m) bN
   else
    if bX.Code == 15 then
     if decide ((IntKind.i64.wrap ((aK.length : Int) - 1)) < 0) then
      mJ N l x9 aK (cW N l m) true
     else
      (bS aK (IntKind.i64.wrap ((aK.length : Int) - 1))).bind fun lA =>
      mJ N l x9 aK (cW N l m) lA
    else
     if bX.Code == 16 then
      if decide ((IntKind.i64.wrap ((aK.length : Int) - 1)) < 0) then
       some (.ret false)
      else
       (sub aK 0 (IntKind.i64.wrap ((aK.length : Int) - 1))).bind fun x42 =>
       iS N l x9 (cW N l m) x42
     else
      iS N l x9 (cW N l m) aK
  else
   some (.brk aK)
def qK (N : Nat) (l : List aM) : Option Bool :=
 (cW N l N 0 []).bind fun q => match q with
  | .ret v => some v
  | .brk p2 =>
   uM N p2
def tE (N : Nat) : Option Bool :=
 some true
def fH (N : Nat) (stack : List (List Int)) : Nat → Int → Option (LR (Unit) (Bool))
 | 0,_ => none
 | m + 1,b8 =>
  if decide (b8 < (stack.length : Int)) then
   (bS stack b8).bind fun eE =>
   if decide (520 < (eE.length : Int)) then
    some (.ret false)
   else
    (fH N stack m) (IntKind.i64.wrap (b8 + 1))
  else
   some (.brk ())
def pT (N : Nat) (stack : List (List Int)) : Option Bool :=
 if decide (64 < (stack.length : Int)) then
  some false
 else
  (fH N stack N 0).bind fun q => match q with
   | .ret v => some v
   | .brk p2 =>
    tE N
def pW (N : Nat) (l0 : List (List Int)) : Option (List (List Int)) :=
 some l0
def iQ (N : Nat) (stack : List (List Int)) : Nat → Int → (List (List Int)) → Option (List (List Int))
 | 0,_,_ => none
 | m + 1,x8,aK =>
  if decide (x8 < (stack.length : Int)) then
   (bS stack x8).bind fun b8 =>
   (pZ N [b8]).bind fun x15 =>
   (eZ 24 aK [x15]).bind fun x17 =>
   (iQ N stack m) (IntKind.i64.wrap (x8 + 1)) x17
  else
   some aK
def nC (N : Nat) (stack : List (List Int)) : Option (List (List Int)) :=
 (iQ N stack N 0 []).bind fun p2 =>
 pW N p2
def gJ (N : Nat) (aB : List Int) (aD : Int) (aH : Int) (aF : List (List Int)) (aC : List aG) (aP : Int) (x2 : Bool) : Option Bool :=
 some x2
def lG (N : Nat) (aB : List Int) (aD : Int) (aH : Int) (aF : List (List Int)) (aC : List aG) (aP : Int) : Option Bool :=
 if (aC.length : Int) == 0 then
  some true
 else
  (bS aC (IntKind.i64.wrap ((aC.length : Int) - 1))).bind fun bE =>
  if bE.outer then
   gJ N aB aD aH aF aC aP bE.taken
  else
   gJ N aB aD aH aF aC aP false
def r9 (N : Nat) (aQ : Int) (bM : List Int) (dG : Int) (cY : Int) : Option Int :=
 if aQ == 8 then
  some 6
 else
  if aQ == 10 then
   some 21
  else
   if aQ == 11 then
    some (IntKind.i64.wrap (1 + (IntKind.i64.wrap (20 * cY))))
   else
    some 1
def lH (N : Nat) (aQ : Int) (bM : List Int) (dG : Int) (cY : Int) (b8 : Bool) : Option Int :=
 if b8 then
  some 2
 else
  if aQ == 11 then
   some (IntKind.i64.wrap (2 * cY))
  else
   some 1
def jK (N : Nat) (aQ : Int) (bM : List Int) (dG : Int) (cY : Int) (x5 : Bool) : Option Int :=
 if x5 then
  some 0
 else
  if aQ == 4 then
   lH N aQ bM dG cY (aQ == 4)
  else
   if aQ == 5 then
    lH N aQ bM dG cY (aQ == 5)
   else
    lH N aQ bM dG cY (aQ == 10)
def sG (N : Nat) (aQ : Int) (bM : List Int) (dG : Int) (cY : Int) : Option Int :=
 if aQ == 1 then
  jK N aQ bM dG cY (aQ == 1)
 else
  if aQ == 15 then
   jK N aQ bM dG cY (aQ == 15)
  else
   if aQ == 16 then
    jK N aQ bM dG cY (aQ == 16)
   else
    jK N aQ bM dG cY (aQ == 17)
def bZ (N : Nat) (aB : List Int) (aD : Int) (aH : Int) (aF : List (List Int)) (aC : List aG) (aP : Int) : Option (List Int) :=
 (bS aF (IntKind.i64.wrap ((aF.length : Int) - 1))).bind fun cD =>
 some cD
def vX (N : Nat) : Option Bool :=
 some false
def eQ (N : Nat) (eF : List Int) : Nat → Int → Option (LR (Unit) (Bool))
 | 0,_ => none
 | m + 1,x7 =>
  if decide (x7 < (eF.length : Int)) then
   (bS eF x7).bind fun x9 =>
   if x9 != 0 then
    some (.ret true)
   else
    (eQ N eF m) (IntKind.i64.wrap (x7 + 1))
  else
   some (.brk ())
def iH (N : Nat) (eF : List Int) : Option Bool :=
 (eQ N eF N 0).bind fun q => match q with
  | .ret v => some v
  | .brk p2 =>
   vX N
def dE (N : Nat) (aB : List Int) (aD : Int) (aH : Int) (aF : List (List Int)) (aC : List aG) (aP : Int) (vn : Int) : Option ((List Int) × Int × Int × (List (List Int)) × (List aG) × Int) :=
 (sub aF 0 (IntKind.i64.wrap ((aF.length : Int) - vn))).bind fun x16 =>
 some (aB,aD,aH,x16,aC,aP)
def fM (N : Nat) (aB : List Int) (aD : Int) (aH : Int) (aF : List (List Int)) (aC : List aG) (aP : Int) (eF : List Int) : Option (Int × (List Int) × Int × Int × (List (List Int)) × (List aG) × Int) :=
 if decide (64 ≤ (aF.length : Int)) then
  some (4,aB,aD,aH,aF,aC,aP)
 else
  (eZ 24 aF [eF]).bind fun x18 =>
  some (0,aB,aD,aH,x18,aC,aP)
def wZ (N : Nat) (va : List Int) (b : List Int) : Option Bool :=
 some ((nS va).toList == (nS b).toList)
def sS (N : Nat) (l0 : List Int) : Option (List Int) :=
 some l0
def dM (N : Nat) : Nat → Int → (List Int) → Option (List Int)
 | 0,_,_ => none
 | m + 1,cX,aK =>
  if decide (0 < cX) then
   (eZ 1 aK [IntKind.u8.wrap cX]).bind fun eE =>
   (shr .u32 cX 8).bind fun x7 =>
   (dM N m) x7 eE
  else
   some aK
def eR (N : Nat) (vn : Int) : Option (List Int) :=
 (dM N N vn []).bind fun p2 =>
 sS N p2
def i4 (N : Nat) (v : Bool) : Option (List Int) :=
 if v then
  (eR N 1).bind fun x4 =>
  some x4
 else
  (eR N 0).bind fun x5 =>
  some x5
def cH (N : Nat) (aB : List Int) (aD : Int) (aH : Int) (aF : List (List Int)) (aC : List aG) (aP : Int) (vn : Int) (eF : List Int) : Option ((List Int) × Int × Int × (List (List Int)) × (List aG) × Int) :=
 (dE N aB aD aH aF aC aP vn).bind fun x8 =>
 (eZ 24 x8.2.2.2.1 [eF]).bind fun x16 =>
 some (x8.1,x8.2.1,x8.2.2.1,x16,x8.2.2.2.2.1,x8.2.2.2.2.2)
def aBJ (N : Nat) (l0 : List Int) : Option (List Int) :=
 some l0
def n9 (N : Nat) (vn : Int) : Nat → Int → (List Int) → Option (List Int)
 | 0,_,_ => none
 | m + 1,x18,aK =>
  if decide (x18 < 8) then
   (shr .u64 (IntKind.u64.wrap (8 * vn)) (IntKind.i64.wrap (56 - (IntKind.i64.wrap (8 * x18))))).bind fun x27 =>
   (eZ 1 aK [IntKind.u8.wrap x27]).bind fun lA =>
   (n9 N vn m) (IntKind.i64.wrap (x18 + 1)) lA
  else
   some aK
def aAT (N : Nat) (vn : Int) : Option (List Int) :=
 (mkl 1 0 (IntKind.u64.wrap (1 + (Int.tmod (IntKind.u64.wrap (64 - (Int.tmod (IntKind.u64.wrap (vn + 9)) 64))) 64))) (IntKind.u64.wrap (9 + (Int.tmod (IntKind.u64.wrap (64 - (Int.tmod (IntKind.u64.wrap (vn + 9)) 64))) 64)))).bind fun x15 =>
 (bS x15 0).bind fun x17 =>
 (n9 N vn N 0 (x15.set (Int.toNat 0) 128)).bind fun p2 =>
 aBJ N p2
def aBr (N : Nat) (l0 : List Int) : Option (List Int) :=
 some l0
def oA (N : Nat) (parts : List (List Int)) : Nat → Int → (List Int) → Option (List Int)
 | 0,_,_ => none
 | m + 1,x8,aK =>
  if decide (x8 < (parts.length : Int)) then
   (bS parts x8).bind fun b8 =>
   (eZ 1 aK b8).bind fun bC =>
   (oA N parts m) (IntKind.i64.wrap (x8 + 1)) bC
  else
   some aK
def zJ (N : Nat) (parts : List (List Int)) : Option (List Int) :=
 (oA N parts N 0 []).bind fun p2 =>
 aBr N p2
def iD (N : Nat) (x : Int) (k : Int) : Option Int :=
 (shl .u32 x (bits .and .u64 (IntKind.u64.wrap k) 31)).bind fun bX =>
 (shr .u32 x (IntKind.u64.wrap (32 - (bits .and .u64 (IntKind.u64.wrap k) 31)))).bind fun x15 =>
 some (bits .or .u32 bX x15)
def cL (N : Nat) (x : Int) (vn : Int) : Option Int :=
 (iD N x (IntKind.i64.wrap (0 - vn))).bind fun x8 =>
 some x8
def nW (N : Nat) (dV : List Int) : Option (List Int) :=
 (aS 64 dV).bind fun q =>
 some dV
def fQ (N : Nat) : Nat → Int → (List Int) → Option (List Int)
 | 0,_,_ => none
 | m + 1,vi,l1_2 =>
  if decide (vi < 64) then
   (bB 64 l1_2 (IntKind.i64.wrap (vi - 15))).bind fun x37 =>
   (cL N x37 7).bind fun x39 =>
   (cL N x37 18).bind fun x44 =>
   (shr .u32 x37 3).bind fun x50 =>
   (bB 64 l1_2 (IntKind.i64.wrap (vi - 2))).bind fun x54 =>
   (cL N x54 17).bind fun x56 =>
   (cL N x54 19).bind fun x61 =>
   (shr .u32 x54 10).bind fun x67 =>
   (bB 64 l1_2 (IntKind.i64.wrap (vi - 16))).bind fun x72 =>
   (bB 64 l1_2 (IntKind.i64.wrap (vi - 7))).bind fun x78 =>
   (bB 64 l1_2 vi).bind fun x83 =>
   (fQ N m) (IntKind.i64.wrap (vi + 1)) (l1_2.set (Int.toNat vi) (IntKind.u32.wrap ((IntKind.u32.wrap ((IntKind.u32.wrap (x72 + (bits .xor .u32 (bits .xor .u32 x39 x44) x50))) + x78)) + (bits .xor .u32 (bits .xor .u32 x56 x61) x67))))
  else
   some l1_2
def n6 (N : Nat) (l1 : List Int) : Option (List Int) :=
 (fQ N N 16 l1).bind fun p3 =>
 nW N p3
def q8 (N : Nat) (block : List Int) (x9 : Int) (rec : Int → (List Int) → Option (List Int)) (fT : List Int) : Option (List Int) :=
 rec (IntKind.i64.wrap (x9 + 1)) fT
def dB (N : Nat) (block : List Int) (x9 : Int) : Nat → Int → (List Int) → Option (List Int)
 | 0,_,_ => none
 | m + 1,eE,gY =>
  if decide (eE < 4) then
   (bB 64 gY x9).bind fun x17 =>
   (shl .u32 x17 8).bind fun x19 =>
   (bB 64 block (IntKind.i64.wrap ((IntKind.i64.wrap (4 * x9)) + eE))).bind fun fO =>
   (dB N block x9 m) (IntKind.i64.wrap (eE + 1)) (gY.set (Int.toNat x9) (bits .or .u32 x19 (IntKind.u32.wrap fO)))
  else
   some gY
def eT (N : Nat) (block : List Int) : Nat → Int → (List Int) → Option (List Int)
 | 0,_,_ => none
 | m + 1,x9,l2 =>
  if decide (x9 < 16) then
   (dB N block x9 N 0 l2).bind fun p6 =>
   q8 N block x9 (eT N block m) p6
  else
   some l2
def mM (N : Nat) (block : List Int) : Option (List Int) :=
 (eT N block N 0 (List.replicate 64 0)).bind fun p4 =>
 n6 N p4
def nD (N : Nat) (bY : List Int) (va : Int) (b : Int) (c : Int) (d : Int) (ve : Int) (f : Int) (g : Int) (vh : Int) : Option (List Int) :=
 (bB 8 bY 0).bind fun x98 =>
 (bB 8 bY 1).bind fun aE0 =>
 (bB 8 bY 2).bind fun sB =>
 (bB 8 bY 3).bind fun aKH =>
 (bB 8 bY 4).bind fun aFj =>
 (bB 8 bY 5).bind fun yH =>
 (bB 8 bY 6).bind fun aKC =>
 (bB 8 bY 7).bind fun aCb =>
 some [IntKind.u32.wrap (x98 + va),IntKind.u32.wrap (aE0 + b),IntKind.u32.wrap (sB + c),IntKind.u32.wrap (aKH + d),IntKind.u32.wrap (aFj + ve),IntKind.u32.wrap (yH + f),IntKind.u32.wrap (aKC + g),IntKind.u32.wrap (aCb + vh)]
def fR (N : Nat) (bY : List Int) (x18 : (List Int)) : Nat → Int → Int → Int → Int → Int → Int → Int → Int → Int → Option (Int × Int × Int × Int × Int × Int × Int × Int)
 | 0,_,_,_,_,_,_,_,_,_ => none
 | m + 1,va_1,b_1,c_1,d_1,ve_1,f_1,g_1,vh_1,x35 =>
  if decide (x35 < 64) then
   (cL N ve_1 6).bind fun x40 =>
   (cL N ve_1 11).bind fun x42 =>
   (cL N ve_1 25).bind fun x45 =>
   (bB 64 aAF x35).bind fun x58 =>
   (bB 64 x18 x35).bind fun x62 =>
   (cL N va_1 2).bind fun x66 =>
   (cL N va_1 13).bind fun x68 =>
   (cL N va_1 22).bind fun x71 =>
   (fR N bY x18 m) (IntKind.u32.wrap ((IntKind.u32.wrap ((IntKind.u32.wrap ((IntKind.u32.wrap ((IntKind.u32.wrap (vh_1 + (bits .xor .u32 (bits .xor .u32 x40 x42) x45))) + (bits .xor .u32 (bits .and .u32 ve_1 f_1) (bits .and .u32 (bits .xor .u32 (IntKind.max .u32) ve_1) g_1)))) + x58)) + x62)) + (IntKind.u32.wrap ((bits .xor .u32 (bits .xor .u32 x66 x68) x71) + (bits .xor .u32 (bits .xor .u32 (bits .and .u32 va_1 b_1) (bits .and .u32 va_1 c_1)) (bits .and .u32 b_1 c_1)))))) va_1 b_1 c_1 (IntKind.u32.wrap (d_1 + (IntKind.u32.wrap ((IntKind.u32.wrap ((IntKind.u32.wrap ((IntKind.u32.wrap (vh_1 + (bits .xor .u32 (bits .xor .u32 x40 x42) x45))) + (bits .xor .u32 (bits .and .u32 ve_1 f_1) (bits .and .u32 (bits .xor .u32 (IntKind.max .u32) ve_1) g_1)))) + x58)) + x62)))) ve_1 f_1 g_1 (IntKind.i64.wrap (x35 + 1))
  else
   some (va_1,b_1,c_1,d_1,ve_1,f_1,g_1,vh_1)
def jH (N : Nat) (bY : List Int) (block : List Int) : Option (List Int) :=
 (aS 64 block).bind fun q =>
 (mM N block).bind fun x18 =>
 (aS 64 x18).bind fun q_1 =>
 (bB 8 bY 0).bind fun x19 =>
 (bB 8 bY 1).bind fun dI =>
 (bB 8 bY 2).bind fun fN =>
 (bB 8 bY 3).bind fun x25 =>
 (bB 8 bY 4).bind fun x27 =>
 (bB 8 bY 5).bind fun x29 =>
 (bB 8 bY 6).bind fun dL =>
 (bB 8 bY 7).bind fun kY =>
 (fR N bY x18 N x19 dI fN x25 x27 x29 dL kY 0).bind fun p2 =>
 nD N bY p2.1 p2.2.1 p2.2.2.1 p2.2.2.2.1 p2.2.2.2.2.1 p2.2.2.2.2.2.1 p2.2.2.2.2.2.2.1 p2.2.2.2.2.2.2.2
def yX (N : Nat) (dV : List Int) : Option (List Int) :=
 (aS 32 dV).bind fun q =>
 some dV
def qB (N : Nat) (l1 : List Int) : Nat → Int → (List Int) → Option (List Int)
 | 0,_,_ => none
 | m + 1,dL,l2 =>
  if decide (dL < 32) then
   (bB 8 l1 (IntKind.i64.wrap (Int.tdiv dL 4))).bind fun x37 =>
   (shr .u32 x37 (IntKind.i64.wrap (24 - (IntKind.i64.wrap ((Int.tmod dL 4) * 8))))).bind fun x43 =>
   (bB 32 l2 dL).bind fun x45 =>
   (qB N l1 m) (IntKind.i64.wrap (dL + 1)) (l2.set (Int.toNat dL) (IntKind.u8.wrap x43))
  else
   some l2
def y4 (N : Nat) (l1 : List Int) : Option (List Int) :=
 (qB N l1 N 0 (List.replicate 32 0)).bind fun p3 =>
 yX N p3
def pX (N : Nat) (bC : (List Int)) : Nat → Int → (List Int) → Option (List Int)
 | 0,_,_ => none
 | m + 1,x19,l1_2 =>
  if decide (x19 < (IntKind.i64.wrap (Int.tdiv (bC.length : Int) 64))) then
   (aS 8 l1_2).bind fun q_1 =>
   (sub bC (IntKind.i64.wrap (64 * x19)) (bC.length : Int)).bind fun x26 =>
   (oS 64 x26).bind fun x27 =>
   (jH N l1_2 x27).bind fun x29 =>
   (aS 8 x29).bind fun q_2 =>
   (pX N bC m) (IntKind.i64.wrap (x19 + 1)) x29
  else
   some l1_2
def wL (N : Nat) (b : List Int) : Option (List Int) :=
 (aAT N (IntKind.u64.wrap (b.length : Int))).bind fun eE =>
 (zJ N [b,eE]).bind fun bC =>
 (pX N bC N 0 tG).bind fun p4 =>
 y4 N p4
def lN (N : Nat) (l1 : List Int) : Option (List Int) :=
 (aS 4 l1).bind fun q =>
 some l1
def eM (N : Nat) (vh : List Int) : Nat → Int → (List Int) → Option (List Int)
 | 0,_,_ => none
 | m + 1,x8,dV =>
  if decide (x8 < 32) then
   (bB 32 vh x8).bind fun bX =>
   (bB 4 dV (IntKind.i64.wrap (3 - (IntKind.i64.wrap (Int.tdiv x8 8))))).bind fun x17 =>
   (shl .u64 x17 8).bind fun x19 =>
   (eM N vh m) (IntKind.i64.wrap (x8 + 1)) (dV.set (Int.toNat (IntKind.i64.wrap (3 - (IntKind.i64.wrap (Int.tdiv x8 8))))) (bits .or .u64 x19 (IntKind.u64.wrap bX)))
  else
   some dV
def dY (N : Nat) (vh : List Int) : Option (List Int) :=
 (aS 32 vh).bind fun q_1 =>
 (eM N vh N 0 (List.replicate 4 0)).bind fun p2 =>
 lN N p2
def d5 (N : Nat) (vn : Int) : Option (List Int) :=
 some [vn,0,0,0]
def m9 (N : Nat) : Option (List Int) :=
 some [18446744073709515503,18446744073709551615,18446744073709551615,18446744073709551615]
def xM (N : Nat) : Option Int :=
 some 0
def kN (N : Nat) (va : List Int) (b : List Int) : Nat → Int → Option (LR (Unit) (Int))
 | 0,_ => none
 | m + 1,vi =>
  if decide (0 ≤ vi) then
   (bB 4 va vi).bind fun bX =>
   (bB 4 b vi).bind fun bC =>
   if decide (bX < bC) then
    some (.ret (-1))
   else
    if decide (bC < bX) then
     some (.ret 1)
    else
     (kN N va b m) (IntKind.i64.wrap (vi - 1))
  else
   some (.brk ())
def lK (N : Nat) (va : List Int) (b : List Int) : Option Int :=
 (kN N va b N 3).bind fun q => match q with
  | .ret v => some v
  | .brk p2 =>
   xM N
def lX (N : Nat) : Option (List Int) :=
 some [18446744073709533559,18446744073709551615,18446744073709551615,9223372036854775807]
def gH (N : Nat) (x_3 : Int) (yN : Int) : Option Int :=
 (aIO (⟨#[0,1,2,2,3,3,3,3,4,4,4,4,4,4,4,4,5,5,5,5,5,5,5,5,5,5,5,5,5,5,5,5,6,6,6,6,6,6,6,6,6,6,6,6,6,6,6,6,6,6,6,6,6,6,6,6,6,6,6,6,6,6,6,6,7,7,7,7,7,7,7,7,7,7,7,7,7,7,7,7,7,7,7,7,7,7,7,7,7,7,7,7,7,7,7,7,7,7,7,7,7,7,7,7,7,7,7,7,7,7,7,7,7,7,7,7,7,7,7,7,7,7,7,7,7,7,7,7,8,8,8,8,8,8,8,8,8,8,8,8,8,8,8,8,8,8,8,8,8,8,8,8,8,8,8,8,8,8,8,8,8,8,8,8,8,8,8,8,8,8,8,8,8,8,8,8,8,8,8,8,8,8,8,8,8,8,8,8,8,8,8,8,8,8,8,8,8,8,8,8,8,8,8,8,8,8,8,8,8,8,8,8,8,8,8,8,8,8,8,8,8,8,8,8,8,8,8,8,8,8,8,8,8,8,8,8,8,8,8,8,8,8,8,8,8,8,8,8,8,8,8,8,8,8,8,8]⟩) (IntKind.u8.wrap x_3)).bind fun bN =>
 some (IntKind.i64.wrap (yN + (IntKind.i64.wrap bN)))
def iY (N : Nat) (x_2 : Int) (cX : Int) : Option Int :=
 if decide (256 ≤ x_2) then
  (shr .u64 x_2 8).bind fun x16 =>
  gH N x16 (IntKind.i64.wrap (cX + 8))
 else
  gH N x_2 cX
def iT (N : Nat) (x_1 : Int) (vn : Int) : Option Int :=
 if decide (65536 ≤ x_1) then
  (shr .u64 x_1 16).bind fun b8 =>
  iY N b8 (IntKind.i64.wrap (vn + 16))
 else
  iY N x_1 vn
def oE (N : Nat) (x : Int) : Option Int :=
 if decide (4294967296 ≤ x) then
  (shr .u64 x 32).bind fun x6 =>
  iT N x6 32
 else
  iT N x 0
def wX (N : Nat) : Option Int :=
 some 0
def oQ (N : Nat) (va : List Int) : Nat → Int → Option (LR (Unit) (Int))
 | 0,_ => none
 | m + 1,vi =>
  if decide (0 ≤ vi) then
   (bB 4 va vi).bind fun x9 =>
   if x9 != 0 then
    (oE N x9).bind fun x17 =>
    some (.ret (IntKind.i64.wrap ((IntKind.i64.wrap (64 * vi)) + x17)))
   else
    (oQ N va m) (IntKind.i64.wrap (vi - 1))
  else
   some (.brk ())
def zZ (N : Nat) (va : List Int) : Option Int :=
 (oQ N va N 3).bind fun q => match q with
  | .ret v => some v
  | .brk p2 =>
   wX N
def i9 (N : Nat) (x : Int) (y : Int) : Option (Int × Int) :=
 (shr .u64 x 32).bind fun x17 =>
 (shr .u64 y 32).bind fun dI =>
 (shr .u64 (IntKind.u64.wrap ((bits .and .u64 x 4294967295) * (bits .and .u64 y 4294967295))) 32).bind fun x29 =>
 (shr .u64 (IntKind.u64.wrap ((IntKind.u64.wrap (x17 * (bits .and .u64 y 4294967295))) + x29)) 32).bind fun e8 =>
 (shr .u64 (IntKind.u64.wrap ((bits .and .u64 (IntKind.u64.wrap ((IntKind.u64.wrap (x17 * (bits .and .u64 y 4294967295))) + x29)) 4294967295) + (IntKind.u64.wrap ((bits .and .u64 x 4294967295) * dI)))) 32).bind fun x46 =>
 some (IntKind.u64.wrap ((IntKind.u64.wrap ((IntKind.u64.wrap (x17 * dI)) + e8)) + x46),IntKind.u64.wrap (x * y))
def cS (N : Nat) (x y c : Int) : Option (Int × Int) := oU x y c
def tM (N : Nat) (l2 : List Int) : Option ((List Int) × (List Int)) :=
 (aS 8 l2).bind fun q =>
 (qY l2 4 8).bind fun x63 =>
 (oS 4 x63).bind fun x64 =>
 (qY l2 0 4).bind fun x66 =>
 (oS 4 x66).bind fun x67 =>
 some (x64,x67)
def t5 (N : Nat) (va : List Int) (b : List Int) (bC : Int) (rec : Int → (List Int) → Option (List Int)) (oZ : List Int) : Option (List Int) :=
 rec (IntKind.i64.wrap (bC + 1)) oZ
def t4 (N : Nat) (va : List Int) (b : List Int) (bC : Int) (rec : Int → (List Int) → Option (List Int)) (iO : Int) (uG : List Int) : Option (List Int) :=
 (bB 8 uG (IntKind.i64.wrap (bC + 4))).bind fun x61 =>
 t5 N va b bC rec (uG.set (Int.toNat (IntKind.i64.wrap (bC + 4))) iO)
def b9 (N : Nat) (va : List Int) (b : List Int) (bC : Int) : Nat → Int → Int → (List Int) → Option (Int × (List Int))
 | 0,_,_,_ => none
 | m + 1,carry_1,x17,l4_3 =>
  if decide (x17 < 4) then
   (bB 4 va bC).bind fun bN =>
   (bB 4 b x17).bind fun x25 =>
   (i9 N bN x25).bind fun x27 =>
   (bB 8 l4_3 (IntKind.i64.wrap (bC + x17))).bind fun x35 =>
   (cS N x27.2 x35 0).bind fun x37 =>
   (cS N x37.1 carry_1 0).bind fun x46 =>
   (b9 N va b bC m) (IntKind.u64.wrap ((IntKind.u64.wrap (x27.1 + x37.2)) + x46.2)) (IntKind.i64.wrap (x17 + 1)) (l4_3.set (Int.toNat (IntKind.i64.wrap (bC + x17))) x46.1)
  else
   some (carry_1,l4_3)
def iF (N : Nat) (va : List Int) (b : List Int) : Nat → Int → (List Int) → Option (List Int)
 | 0,_,_ => none
 | m + 1,bC,l4 =>
  if decide (bC < 4) then
   (b9 N va b bC N 0 0 l4).bind fun p5 =>
   t4 N va b bC (iF N va b m) p5.1 p5.2
  else
   some l4
def uL (N : Nat) (va : List Int) (b : List Int) : Option ((List Int) × (List Int)) :=
 (iF N va b N 0 (List.replicate 8 0)).bind fun p2 =>
 tM N p2
def s7 (N : Nat) (aD3 : Int) (l0 : List Int) : Option ((List Int) × Int) :=
 (aS 4 l0).bind fun q =>
 some (l0,aD3)
def kK (N : Nat) : Nat → Int → Int → (List Int) → Option (Int × (List Int))
 | 0,_,_,_ => none
 | m + 1,low_2,x7,aK =>
  if decide (x7 < 4) then
   (bB 4 aK x7).bind fun eE =>
   (shl .u64 eE 1).bind fun bC =>
   (shr .u64 eE 63).bind fun bE =>
   (kK N m) bE (IntKind.i64.wrap (x7 + 1)) (aK.set (Int.toNat x7) (bits .or .u64 bC low_2))
  else
   some (low_2,aK)
def oM (N : Nat) (va : List Int) (low : Int) : Option ((List Int) × Int) :=
 (kK N N low 0 va).bind fun p2 =>
 s7 N p2.1 p2.2
def oB (N : Nat) (x y c : Int) : Option (Int × Int) := aBl x y c
def t3 (N : Nat) (borrow : Int) (l1 : List Int) : Option ((List Int) × Bool) :=
 (aS 4 l1).bind fun q =>
 some (l1,borrow != 0)
def iJ (N : Nat) (va : List Int) (b : List Int) : Nat → Int → Int → (List Int) → Option (Int × (List Int))
 | 0,_,_,_ => none
 | m + 1,borrow_1,x9,l3 =>
  if decide (x9 < 4) then
   (bB 4 va x9).bind fun x15 =>
   (bB 4 b x9).bind fun x18 =>
   (oB N x15 x18 borrow_1).bind fun dI =>
   (bB 4 l3 x9).bind fun fO =>
   (iJ N va b m) dI.2 (IntKind.i64.wrap (x9 + 1)) (l3.set (Int.toNat x9) dI.1)
  else
   some (borrow_1,l3)
def oG (N : Nat) (va : List Int) (b : List Int) : Option ((List Int) × Bool) :=
 (iJ N va b N 0 0 (List.replicate 4 0)).bind fun p2 =>
 t3 N p2.1 p2.2
def xH (N : Nat) (l0 : List Int) (l1 : List Int) : Option ((List Int) × (List Int) × Bool) :=
 (aS 4 l0).bind fun q_2 =>
 (aS 4 l1).bind fun q_3 =>
 some (l0,l1,true)
def wY (N : Nat) (b : List Int) (b6 : Int) (rec : Int → (List Int) → (List Int) → (List Int) → Option ((List Int) × (List Int))) (iP : List Int) (fT : List Int) (jA : List Int) : Option ((List Int) × (List Int)) :=
 rec (IntKind.i64.wrap (b6 - 1)) iP fT jA
def qS (N : Nat) (b : List Int) (b6 : Int) (bit : Int) (rec : Int → (List Int) → (List Int) → (List Int) → Option (LR ((List Int) × (List Int) × (List Int)) ((List Int) × (List Int)))) (aE8 : List Int) (aEM : List Int) (aE3 : List Int) : Option (LR ((List Int) × (List Int) × (List Int)) ((List Int) × (List Int))) :=
 rec (IntKind.i64.wrap (bit - 1)) aE8 aEM aE3
def oJ (N : Nat) (b : List Int) (b6 : Int) (bit : Int) (gY : List Int) (x40 : (List Int) × Int) (x46 : (List Int) × Int) (rec : Int → (List Int) → (List Int) → (List Int) → Option (LR ((List Int) × (List Int) × (List Int)) ((List Int) × (List Int)))) (x56 : Bool) : Option (LR ((List Int) × (List Int) × (List Int)) ((List Int) × (List Int))) :=
 if x56 then
  (oG N x46.1 b).bind fun x60 =>
  (aS 4 x60.1).bind fun q_8 =>
  (bB 4 gY b6).bind fun x64 =>
  (shl .u64 1 bit).bind fun x67 =>
  qS N b b6 bit rec x40.1 (gY.set (Int.toNat b6) (bits .or .u64 x64 x67)) x60.1
 else
  qS N b b6 bit rec x40.1 gY x46.1
def qO (N : Nat) (b : List Int) (b6 : Int) (bit : Int) (kX : List Int) (gY : List Int) (f7 : List Int) (rec : Int → (List Int) → (List Int) → (List Int) → Option (LR ((List Int) × (List Int) × (List Int)) ((List Int) × (List Int)))) (x37 : Bool) : Option (LR ((List Int) × (List Int) × (List Int)) ((List Int) × (List Int))) :=
 if x37 then
  some (.ret (gY,f7))
 else
  (aS 4 kX).bind fun q_4 =>
  (oM N kX 0).bind fun x40 =>
  (aS 4 x40.1).bind fun q_5 =>
  (aS 4 f7).bind fun q_6 =>
  (oM N f7 x40.2).bind fun x46 =>
  (aS 4 x46.1).bind fun q_7 =>
  if x46.2 != 0 then
   oJ N b b6 bit gY x40 x46 rec true
  else
   (lK N x46.1 b).bind fun x54 =>
   oJ N b b6 bit gY x40 x46 rec (decide (0 ≤ x54))
def cM (N : Nat) (b : List Int) (b6 : Int) : Nat → Int → (List Int) → (List Int) → (List Int) → Option (LR ((List Int) × (List Int) × (List Int)) ((List Int) × (List Int)))
 | 0,_,_,_,_ => none
 | m + 1,bit,kX,gY,f7 =>
  if decide (0 ≤ bit) then
   (aS 4 f7).bind fun q_9 =>
   if f7 == [0,0,0,0] then
    (aS 4 kX).bind fun aPh =>
    qO N b b6 bit kX gY f7 (cM N b b6 m) (kX == [0,0,0,0])
   else
    qO N b b6 bit kX gY f7 (cM N b b6 m) false
  else
   some (.brk (kX,gY,f7))
def kO (N : Nat) (b : List Int) : Nat → Int → (List Int) → (List Int) → (List Int) → Option ((List Int) × (List Int))
 | 0,_,_,_,_ => none
 | m + 1,b6,aK,l2,l3 =>
  if decide (0 ≤ b6) then
   (cM N b b6 N 63 aK l2 l3).bind fun q => match q with
    | .ret p4_1 =>
     some (p4_1.1,p4_1.2)
    | .brk p4 =>
     wY N b b6 (kO N b m) p4.1 p4.2.1 p4.2.2
  else
   some (l2,l3)
def wP (N : Nat) (hi : List Int) (lo : List Int) (b : List Int) : Option ((List Int) × (List Int) × Bool) :=
 (aS 4 b).bind fun q =>
 (aS 4 hi).bind fun q_1 =>
 (lK N b hi).bind fun x16 =>
 if decide (x16 ≤ 0) then
  some ([0,0,0,0],[0,0,0,0],false)
 else
  (kO N b N 3 lo (List.replicate 4 0) hi).bind fun p2 =>
  xH N p2.1 p2.2
def oP (N : Nat) (va : List Int) (vm : List Int) : Option (List Int) :=
 (aS 4 va).bind fun q =>
 (aS 4 vm).bind fun q_1 =>
 (lK N va vm).bind fun b8 =>
 if decide (b8 < 0) then
  some va
 else
  (wP N [0,0,0,0] va vm).bind fun x17 =>
  (aS 4 x17.1).bind fun q_2 =>
  (aS 4 x17.2.1).bind fun q_3 =>
  some x17.2.1
def tL (N : Nat) (va : List Int) (b : List Int) (vm : List Int) : Option (List Int) :=
 (aS 4 vm).bind fun q =>
 if vm == [0,0,0,0] then
  some [0,0,0,0]
 else
  (aS 4 va).bind fun q_1 =>
  (aS 4 b).bind fun q_2 =>
  (uL N va b).bind fun x19 =>
  (aS 4 x19.1).bind fun q_3 =>
  (aS 4 x19.2).bind fun q_4 =>
  (oP N x19.1 vm).bind fun x25 =>
  (wP N x25 x19.2 vm).bind fun x28 =>
  (aS 4 x28.1).bind fun q_5 =>
  (aS 4 x28.2.1).bind fun q_6 =>
  some x28.2.1
def rO (N : Nat) (va : List Int) (b : List Int) : Option (List Int) :=
 (aS 4 va).bind fun q =>
 (aS 4 b).bind fun q_1 =>
 (m9 N).bind fun x7 =>
 (tL N va b x7).bind fun x8 =>
 (aS 4 x8).bind fun q_2 =>
 some x8
def uU (N : Nat) (l1 : List Int) : Option (List Int) :=
 (aS 4 l1).bind fun q_2 =>
 some l1
def o9 (N : Nat) (va : List Int) (ve : List Int) (bX : Int) (cD : Int) (rec : Int → (List Int) → Option (List Int)) (jA : List Int) : Option (List Int) :=
 rec (IntKind.i64.wrap (cD + 1)) jA
def jN (N : Nat) (va : List Int) (ve : List Int) (bX : Int) : Nat → Int → (List Int) → Option (List Int)
 | 0,_,_ => none
 | m + 1,cD,l3 =>
  if decide (cD < bX) then
   (aS 4 l3).bind fun q_3 =>
   (rO N l3 l3).bind fun bN =>
   (aS 4 bN).bind fun q_4 =>
   (bB 4 ve (IntKind.i64.wrap (Int.tdiv (IntKind.i64.wrap ((IntKind.i64.wrap (bX - 1)) - cD)) 64))).bind fun x25 =>
   (shr .u64 x25 (Int.tmod (IntKind.i64.wrap ((IntKind.i64.wrap (bX - 1)) - cD)) 64)).bind fun x29 =>
   if (bits .and .u64 x29 1) == 1 then
    (aS 4 va).bind fun q_5 =>
    (rO N bN va).bind fun e8 =>
    (aS 4 e8).bind fun q_6 =>
    o9 N va ve bX cD (jN N va ve bX m) e8
   else
    o9 N va ve bX cD (jN N va ve bX m) bN
  else
   some l3
def sN (N : Nat) (va : List Int) (ve : List Int) : Option (List Int) :=
 (d5 N 1).bind fun x9 =>
 (aS 4 x9).bind fun q =>
 (aS 4 ve).bind fun q_1 =>
 (zZ N ve).bind fun bX =>
 (jN N va ve bX N 0 x9).bind fun p2 =>
 uU N p2
def i6 (N : Nat) (va : List Int) (bX : Bool) : Option Bool :=
 if bX then
  some false
 else
  (aS 4 va).bind fun q =>
  (lX N).bind fun cD =>
  (sN N va cD).bind fun bC =>
  (d5 N 1).bind fun x15 =>
  (aS 4 bC).bind fun q_1 =>
  (aS 4 x15).bind fun q_2 =>
  some (bC == x15)
def mO (N : Nat) (va : List Int) : Option Bool :=
 (aS 4 va).bind fun q_3 =>
 if va == [0,0,0,0] then
  i6 N va true
 else
  (m9 N).bind fun x8 =>
  (lK N va x8).bind fun x9 =>
  i6 N va (decide (0 ≤ x9))
def t8 (N : Nat) (x2 : Bool) : Option Bool :=
 some x2
def oF (N : Nat) (p : List Int) : Option Bool :=
 (aS 4 p).bind fun q =>
 (d5 N 1).bind fun x4 =>
 (aS 4 x4).bind fun q_1 =>
 if !(p == x4) then
  (mO N p).bind fun x8 =>
  t8 N x8
 else
  t8 N false
def lU (N : Nat) (va : List Int) : Option Bool :=
 (aS 4 va).bind fun q =>
 (lX N).bind fun x4 =>
 (lK N va x4).bind fun x5 =>
 some (decide (x5 < 0))
def lZ (N : Nat) (cD : (List Int)) (x18 : (List Int)) (x29 : Bool) : Option ((List Int) × (List Int) × Int) :=
 if x29 then
  some (List.replicate 4 0,List.replicate 4 0,5)
 else
  some (cD,x18,0)
def oI (N : Nat) (b : List Int) : Option ((List Int) × (List Int) × Int) :=
 if (b.length : Int) != 64 then
  some (List.replicate 4 0,List.replicate 4 0,8)
 else
  (sub b 0 32).bind fun b8 =>
  (oS 32 b8).bind fun bX =>
  (dY N bX).bind fun cD =>
  (sub b 32 (b.length : Int)).bind fun x15 =>
  (oS 32 x15).bind fun x16 =>
  (dY N x16).bind fun x18 =>
  (aS 4 cD).bind fun q =>
  (aS 4 x18).bind fun q_1 =>
  (lU N cD).bind fun bN =>
  if !bN then
   lZ N cD x18 true
  else
   (lU N x18).bind fun x27 =>
   lZ N cD x18 (!x27)
def qQ (N : Nat) (ve : List Int) : Option (List Int) :=
 (d5 N 4).bind fun x3 =>
 (aS 4 ve).bind fun q =>
 (sN N x3 ve).bind fun x5 =>
 (aS 4 x5).bind fun q_1 =>
 some x5
def uD (N : Nat) (l1 : List Int) : Option (List Int) :=
 (aS 32 l1).bind fun q =>
 some l1
def iM (N : Nat) (va : List Int) : Nat → Int → (List Int) → Option (List Int)
 | 0,_,_ => none
 | m + 1,x5,l2 =>
  if decide (x5 < 32) then
   (bB 4 va (IntKind.i64.wrap (3 - (IntKind.i64.wrap (Int.tdiv x5 8))))).bind fun eE =>
   (shr .u64 eE (IntKind.i64.wrap (56 - (IntKind.i64.wrap ((Int.tmod x5 8) * 8))))).bind fun x18 =>
   (bB 32 l2 x5).bind fun bE =>
   (iM N va m) (IntKind.i64.wrap (x5 + 1)) (l2.set (Int.toNat x5) (IntKind.u8.wrap x18))
  else
   some l2
def qJ (N : Nat) (va : List Int) : Option (List Int) :=
 (iM N va N 0 (List.replicate 32 0)).bind fun p2 =>
 uD N p2
def aAD (N : Nat) (l0 : List Int) : Option (List Int) :=
 some l0
def lS (N : Nat) (parts : List (List Int)) : Nat → Int → (List Int) → Option (List Int)
 | 0,_,_ => none
 | m + 1,x8,aK =>
  if decide (x8 < (parts.length : Int)) then
   (bS parts x8).bind fun b8 =>
   (aS 32 b8).bind fun q =>
   (eZ 1 aK b8).bind fun bC =>
   (lS N parts m) (IntKind.i64.wrap (x8 + 1)) bC
  else
   some aK
def uI (N : Nat) (parts : List (List Int)) : Option (List Int) :=
 (lS N parts N 0 []).bind fun p2 =>
 aAD N p2
def vN (N : Nat) (tag : ByteArray) (b : List Int) : Option (List Int) :=
 (stb tag).bind fun x7 =>
 (wL N x7).bind fun x8 =>
 (aS 32 x8).bind fun q =>
 (zJ N [x8,x8,b]).bind fun cD =>
 (wL N cD).bind fun bC =>
 (aS 32 bC).bind fun q_1 =>
 some bC
def tJ (N : Nat) (iO : Int) (l1 : List Int) : Option ((List Int) × Bool) :=
 (aS 4 l1).bind fun q =>
 some (l1,iO != 0)
def iK (N : Nat) (va : List Int) (b : List Int) : Nat → Int → Int → (List Int) → Option (Int × (List Int))
 | 0,_,_,_ => none
 | m + 1,carry_1,x9,l3 =>
  if decide (x9 < 4) then
   (bB 4 va x9).bind fun x15 =>
   (bB 4 b x9).bind fun x18 =>
   (cS N x15 x18 carry_1).bind fun dI =>
   (bB 4 l3 x9).bind fun fO =>
   (iK N va b m) dI.2 (IntKind.i64.wrap (x9 + 1)) (l3.set (Int.toNat x9) dI.1)
  else
   some (carry_1,l3)
def sA (N : Nat) (va : List Int) (b : List Int) : Option ((List Int) × Bool) :=
 (iK N va b N 0 0 (List.replicate 4 0)).bind fun p2 =>
 tJ N p2.1 p2.2
def kJ (N : Nat) (l1 : List Int) : Option (List Int) :=
 (aS 4 l1).bind fun q_4 =>
 some l1
def kG (N : Nat) (vm : List Int) (bE : (List Int) × Bool) (x29 : Bool) : Option (List Int) :=
 if x29 then
  (oG N bE.1 vm).bind fun kY =>
  (aS 4 kY.1).bind fun q_5 =>
  kJ N kY.1
 else
  kJ N bE.1
def tO (N : Nat) (va : List Int) (b : List Int) (vm : List Int) : Option (List Int) :=
 (aS 4 vm).bind fun q =>
 if vm == [0,0,0,0] then
  some [0,0,0,0]
 else
  (aS 4 va).bind fun q_1 =>
  (oP N va vm).bind fun x16 =>
  (aS 4 b).bind fun q_2 =>
  (oP N b vm).bind fun x19 =>
  (sA N x16 x19).bind fun bE =>
  (aS 4 bE.1).bind fun q_3 =>
  if bE.2 then
   kG N vm bE true
  else
   (lK N bE.1 vm).bind fun x27 =>
   kG N vm bE (decide (0 ≤ x27))
def k9 (N : Nat) (va : List Int) (b : List Int) : Option (List Int) :=
 (aS 4 va).bind fun q =>
 (aS 4 b).bind fun q_1 =>
 (lX N).bind fun x7 =>
 (tO N va b x7).bind fun x8 =>
 (aS 4 x8).bind fun q_2 =>
 some x8
def l9 (N : Nat) (vh : List Int) : Option (List Int) :=
 (aS 32 vh).bind fun q =>
 (dY N vh).bind fun x4 =>
 (k9 N x4 [0,0,0,0]).bind fun x6 =>
 (aS 4 x6).bind fun q_1 =>
 some x6
def kL (N : Nat) (vr : List Int) (p : List Int) (vm : List Int) : Option (List Int) :=
 (aS 4 vr).bind fun q =>
 (qJ N vr).bind fun x8 =>
 (aS 4 p).bind fun q_1 =>
 (qJ N p).bind fun b8 =>
 (aS 32 vm).bind fun q_2 =>
 (aS 32 x8).bind fun q_3 =>
 (aS 32 b8).bind fun q_4 =>
 (uI N [x8,b8,vm]).bind fun cD =>
 (vN N (⟨#[108,105,103,104,116,99,108,105,101,110,116,47,99,104,97,108,108,101,110,103,101]⟩) cD).bind fun bC =>
 (l9 N bC).bind fun x15 =>
 (aS 4 x15).bind fun q_5 =>
 some x15
def gX (N : Nat) (p : List Int) (vm : List Int) (s_E : List Int) (s_S : List Int) (fO : Bool) : Option Bool :=
 if fO then
  some false
 else
  (lX N).bind fun x26 =>
  (aS 4 s_E).bind fun q =>
  (oG N x26 s_E).bind fun x29 =>
  (aS 4 x29.1).bind fun q_1 =>
  (aS 4 s_S).bind fun q_2 =>
  (qQ N s_S).bind fun e8 =>
  (aS 4 p).bind fun q_3 =>
  (sN N p x29.1).bind fun x37 =>
  (rO N e8 x37).bind fun x38 =>
  (aS 4 x38).bind fun q_4 =>
  (aS 32 vm).bind fun q_5 =>
  (kL N x38 p vm).bind fun x44 =>
  (aS 4 x44).bind fun q_6 =>
  some (s_E == x44)
def oR (N : Nat) (p : List Int) (vm : List Int) (s_E : List Int) (s_S : List Int) : Option Bool :=
 (aS 4 s_E).bind fun q_7 =>
 (lU N s_E).bind fun eE =>
 if !eE then
  gX N p vm s_E s_S true
 else
  (aS 4 s_S).bind fun q_8 =>
  (lU N s_S).bind fun x17 =>
  if !x17 then
   gX N p vm s_E s_S true
  else
   (aS 4 p).bind fun q_9 =>
   (oF N p).bind fun bN =>
   gX N p vm s_E s_S (!bN)
def eO (N : Nat) (aB : List Int) (aD : Int) (aH : Int) (aF : List (List Int)) (aC : List aG) (aP : Int) (x40 : Bool) : Option Int :=
 if x40 then
  some 61
 else
  some 0
def cE (N : Nat) (aB : List Int) (aD : Int) (aH : Int) (aF : List (List Int)) (aC : List aG) (aP : Int) (key : List Int) (xY : List Int) : Option Int :=
 if (key.length : Int) != 32 then
  some 60
 else
  (oS 32 key).bind fun bC =>
  (dY N bC).bind fun x16 =>
  (aS 4 x16).bind fun q =>
  (oF N x16).bind fun x18 =>
  if !x18 then
   some 60
  else
   if (xY.length : Int) == 0 then
    some 0
   else
    (oI N xY).bind fun x25 =>
    if x25.2.2 != 0 then
     eO N aB aD aH aF aC aP true
    else
     (aS 32 aB).bind fun q_1 =>
     (oR N x16 aB x25.1 x25.2.1).bind fun x38 =>
     eO N aB aD aH aF aC aP (!x38)
def jO (N : Nat) (aB : List Int) (aD : Int) (aH : Int) (aF : List (List Int)) (aC : List aG) (aP : Int) (dS : Int) (vn : Int) (count : Int) : Option (Int × (List Int) × Int × Int × (List (List Int)) × (List aG) × Int) :=
 (i4 N (decide (dS ≤ count))).bind fun x76 =>
 (cH N aB aD aH aF aC aP (IntKind.i64.wrap (2 * vn)) x76).bind fun x77 =>
 some (0,x77.1,x77.2.1,x77.2.2.1,x77.2.2.2.1,x77.2.2.2.2.1,x77.2.2.2.2.2)
def gB (N : Nat) (aB : List Int) (aD : Int) (aH : Int) (aF : List (List Int)) (aC : List aG) (aP : Int) (dS : Int) (vn : Int) (fN : List (List Int)) (x43 : List (List Int)) (x45 : Int) (rec : Int → Int → Option (LR (Int) (Int × (List Int) × Int × Int × (List (List Int)) × (List aG) × Int))) (zC : Int) : Option (LR (Int) (Int × (List Int) × Int × Int × (List (List Int)) × (List aG) × Int)) :=
 rec zC (IntKind.i64.wrap (x45 + 1))
def cK (N : Nat) (aB : List Int) (aD : Int) (aH : Int) (aF : List (List Int)) (aC : List aG) (aP : Int) (dS : Int) (vn : Int) (fN : List (List Int)) (x43 : List (List Int)) : Nat → Int → Int → Option (LR (Int) (Int × (List Int) × Int × Int × (List (List Int)) × (List aG) × Int))
 | 0,_,_ => none
 | m + 1,count_1,x45 =>
  if decide (x45 < vn) then
   (bS fN x45).bind fun x51 =>
   (bS x43 x45).bind fun x55 =>
   (cE N aB aD aH aF aC aP x51 x55).bind fun x57 =>
   if x57 != 0 then
    some (.ret (x57,aB,aD,aH,aF,aC,aP))
   else
    if decide (0 < (x55.length : Int)) then
     gB N aB aD aH aF aC aP dS vn fN x43 x45 (cK N aB aD aH aF aC aP dS vn fN x43 m) (IntKind.i64.wrap (count_1 + 1))
    else
     gB N aB aD aH aF aC aP dS vn fN x43 x45 (cK N aB aD aH aF aC aP dS vn fN x43 m) count_1
  else
   some (.brk count_1)
def fX (N : Nat) (aB : List Int) (aD : Int) (aH : Int) (aF : List (List Int)) (aC : List aG) (aP : Int) (dS : Int) (vn : Int) : Option (Int × (List Int) × Int × Int × (List (List Int)) × (List aG) × Int) :=
 (qY aF (IntKind.i64.wrap ((aF.length : Int) - vn)) (aF.length : Int)).bind fun fN =>
 (qY aF (IntKind.i64.wrap ((aF.length : Int) - (IntKind.i64.wrap (2 * vn)))) (IntKind.i64.wrap ((aF.length : Int) - vn))).bind fun x43 =>
 (cK N aB aD aH aF aC aP dS vn fN x43 N 0 0).bind fun q => match q with
  | .ret v => some v
  | .brk p2 =>
   jO N aB aD aH aF aC aP dS vn p2
def qG (N : Nat) (vn : Int) : Option (Int × Int) :=
 some (vn,0)
def eW (N : Nat) (b : List Int) : Nat → Int → Int → Option Int
 | 0,_,_ => none
 | m + 1,cX,x26 =>
  if decide (x26 < (b.length : Int)) then
   (bS b x26).bind fun x29 =>
   (shl .u32 (IntKind.u32.wrap x29) (IntKind.i64.wrap (8 * x26))).bind fun x36 =>
   (eW N b m) (bits .or .u32 cX x36) (IntKind.i64.wrap (x26 + 1))
  else
   some cX
def eK (N : Nat) (b : List Int) (fN : Bool) : Option (Int × Int) :=
 if fN then
  some (0,82)
 else
  (eW N b N 0 0).bind fun p3 =>
  qG N p3
def gO (N : Nat) (b : List Int) : Option (Int × Int) :=
 if decide (4 < (b.length : Int)) then
  eK N b true
 else
  if decide (0 < (b.length : Int)) then
   (bS b (IntKind.i64.wrap ((b.length : Int) - 1))).bind fun x19 =>
   eK N b (x19 == 0)
  else
   eK N b false
def j4 (N : Nat) (eF : List Int) (now : Int) : Option Int :=
 (gO N eF).bind fun x9 =>
 if x9.2 != 0 then
  some x9.2
 else
  if decide (now < (IntKind.i64.wrap x9.1)) then
   some 85
  else
   some 0
def cO (N : Nat) (c0 : List Int) (rZ : Int) (rV : Int) (qW : Int) (l3 : List (List Int)) (l4 : List aG) : Option (Int × (List Int) × Int × Int × (List (List Int)) × (List aG) × Int) :=
 some (0,c0,rZ,rV,l3,l4,qW)
def jL (N : Nat) (aB : List Int) (aD : Int) (aH : Int) (aF : List (List Int)) (aC : List aG) (aP : Int) (aQ : Int) (bM : List Int) (dG : Int) (cY : Int) : Option (Int × (List Int) × Int × Int × (List (List Int)) × (List aG) × Int) :=
 if aQ == 1 then
  (fM N aB aD aH aF aC aP bM).bind fun bC =>
  some (bC.1,bC.2.1,bC.2.2.1,bC.2.2.2.1,bC.2.2.2.2.1,bC.2.2.2.2.2.1,bC.2.2.2.2.2.2)
 else
  if aQ == 2 then
   (bZ N aB aD aH aF aC aP).bind fun x19 =>
   (fM N aB aD aH aF aC aP x19).bind fun bE =>
   some (bE.1,bE.2.1,bE.2.2.1,bE.2.2.2.1,bE.2.2.2.2.1,bE.2.2.2.2.2.1,bE.2.2.2.2.2.2)
  else
   if aQ == 3 then
    (dE N aB aD aH aF aC aP 1).bind fun fO =>
    cO N fO.1 fO.2.1 fO.2.2.1 fO.2.2.2.2.2 fO.2.2.2.1 fO.2.2.2.2.1
   else
    if aQ == 4 then
     (bS aF (IntKind.i64.wrap ((aF.length : Int) - 2))).bind fun x50 =>
     (bS aF (IntKind.i64.wrap ((aF.length : Int) - 1))).bind fun x58 =>
     (bS (aF.set (Int.toNat (IntKind.i64.wrap ((aF.length : Int) - 1))) x50) (IntKind.i64.wrap ((aF.length : Int) - 2))).bind fun x61 =>
     cO N aB aD aH aP ((aF.set (Int.toNat (IntKind.i64.wrap ((aF.length : Int) - 1))) x50).set (Int.toNat (IntKind.i64.wrap ((aF.length : Int) - 2))) x58) aC
    else
     if aQ == 5 then
      (bZ N aB aD aH aF aC aP).bind fun x66 =>
      (bS aF (IntKind.i64.wrap ((aF.length : Int) - 2))).bind fun x77 =>
      (wZ N x66 x77).bind fun x79 =>
      (i4 N x79).bind fun x80 =>
      (cH N aB aD aH aF aC aP 2 x80).bind fun x81 =>
      cO N x81.1 x81.2.1 x81.2.2.1 x81.2.2.2.2.2 x81.2.2.2.1 x81.2.2.2.2.1
     else
      if aQ == 6 then
       (bZ N aB aD aH aF aC aP).bind fun x86 =>
       (iH N x86).bind fun x87 =>
       (i4 N (!x87)).bind fun x89 =>
       (cH N aB aD aH aF aC aP 1 x89).bind fun x90 =>
       cO N x90.1 x90.2.1 x90.2.2.1 x90.2.2.2.2.2 x90.2.2.2.1 x90.2.2.2.2.1
      else
       if aQ == 7 then
        (bZ N aB aD aH aF aC aP).bind fun x94 =>
        (iH N x94).bind fun x95 =>
        if !x95 then
         some (84,aB,aD,aH,aF,aC,aP)
        else
         (dE N aB aD aH aF aC aP 1).bind fun x98 =>
         cO N x98.1 x98.2.1 x98.2.2.1 x98.2.2.2.2.2 x98.2.2.2.1 x98.2.2.2.2.1
       else
        if aQ == 8 then
         (bZ N aB aD aH aF aC aP).bind fun aE0 =>
         (wL N aE0).bind fun aDe =>
         (aS 32 aDe).bind fun q =>
         (cH N aB aD aH aF aC aP 1 aDe).bind fun sB =>
         cO N sB.1 sB.2.1 sB.2.2.1 sB.2.2.2.2.2 sB.2.2.2.1 sB.2.2.2.2.1
        else
         if aQ == 9 then
          (bZ N aB aD aH aF aC aP).bind fun aGM =>
          (eR N (IntKind.u32.wrap (aGM.length : Int))).bind fun aFj =>
          (fM N aB aD aH aF aC aP aFj).bind fun aB9 =>
          some (aB9.1,aB9.2.1,aB9.2.2.1,aB9.2.2.2.1,aB9.2.2.2.2.1,aB9.2.2.2.2.2.1,aB9.2.2.2.2.2.2)
         else
          if aQ == 10 then
           (fX N aB aD aH aF aC aP 1 1).bind fun aBW =>
           some (aBW.1,aBW.2.1,aBW.2.2.1,aBW.2.2.2.1,aBW.2.2.2.2.1,aBW.2.2.2.2.2.1,aBW.2.2.2.2.2.2)
          else
           if aQ == 11 then
            (fX N aB aD aH aF aC aP dG cY).bind fun aB6 =>
            some (aB6.1,aB6.2.1,aB6.2.2.1,aB6.2.2.2.1,aB6.2.2.2.2.1,aB6.2.2.2.2.2.1,aB6.2.2.2.2.2.2)
           else
            if aQ == 12 then
             (bZ N aB aD aH aF aC aP).bind fun aNq =>
             (j4 N aNq aD).bind fun aNj =>
             some (aNj,aB,aD,aH,aF,aC,aP)
            else
             if aQ == 13 then
              (bZ N aB aD aH aF aC aP).bind fun aM0 =>
              (j4 N aM0 aH).bind fun aB8 =>
              some (aB8,aB,aD,aH,aF,aC,aP)
             else
              if aQ == 17 then
               some (84,aB,aD,aH,aF,aC,aP)
              else
               cO N aB aD aH aP aF aC
def eG (N : Nat) (rZ : List Int) (rV : Int) (qW : Int) (wT : Int) (l3 : List (List Int)) (l4 : List aG) : Option (Int × (List Int) × Int × Int × (List (List Int)) × (List aG) × Int) :=
 some (0,rZ,rV,qW,l3,l4,wT)
def iE (N : Nat) (aB : List Int) (aD : Int) (aH : Int) (aF : List (List Int)) (counted : Bool) (c0 : Int) (jA : List aG) : Option (Int × (List Int) × Int × Int × (List (List Int)) × (List aG) × Int) :=
 if counted then
  (dE N aB aD aH aF jA c0 1).bind fun x86 =>
  eG N x86.1 x86.2.1 x86.2.2.1 x86.2.2.2.2.2 x86.2.2.2.1 x86.2.2.2.2.1
 else
  eG N aB aD aH c0 aF jA
def fB (N : Nat) (aB : List Int) (aD : Int) (aH : Int) (aF : List (List Int)) (aC : List aG) (aQ : Int) (bM : List Int) (dG : Int) (cY : Int) (counted : Bool) (c0 : Int) : Option (Int × (List Int) × Int × Int × (List (List Int)) × (List aG) × Int) :=
 if aQ == 14 then
  if counted then
   (bZ N aB aD aH aF aC c0).bind fun x76 =>
   (iH N x76).bind fun x77 =>
   (eZ 2 aC [(aG.mk counted x77)]).bind fun x81 =>
   iE N aB aD aH aF counted c0 x81
  else
   (eZ 2 aC [(aG.mk counted false)]).bind fun aIF =>
   iE N aB aD aH aF counted c0 aIF
 else
  if aQ == 15 then
   (bS aC (IntKind.i64.wrap ((aC.length : Int) - 1))).bind fun x99 =>
   eG N aB aD aH c0 aF (aC.set (Int.toNat (IntKind.i64.wrap ((aC.length : Int) - 1))) (aG.mk x99.outer (!x99.taken)))
  else
   if aQ == 16 then
    (sub aC 0 (IntKind.i64.wrap ((aC.length : Int) - 1))).bind fun aCi =>
    eG N aB aD aH c0 aF aCi
   else
    if counted then
     (jL N aB aD aH aF aC c0 aQ bM dG cY).bind fun x64 =>
     some (x64.1,x64.2.1,x64.2.2.1,x64.2.2.2.1,x64.2.2.2.2.1,x64.2.2.2.2.2.1,x64.2.2.2.2.2.2)
    else
     eG N aB aD aH c0 aF aC
def fF (N : Nat) (aB : List Int) (aD : Int) (aH : Int) (aF : List (List Int)) (aC : List aG) (aP : Int) (aQ : Int) (bM : List Int) (dG : Int) (cY : Int) (counted : Bool) : Option (Int × (List Int) × Int × Int × (List (List Int)) × (List aG) × Int) :=
 if counted then
  (r9 N aQ bM dG cY).bind fun x36 =>
  if decide (500 < (IntKind.i64.wrap (aP + x36))) then
   some (83,aB,aD,aH,aF,aC,IntKind.i64.wrap (aP + x36))
  else
   (sG N aQ bM dG cY).bind fun x51 =>
   if decide ((aF.length : Int) < x51) then
    some (81,aB,aD,aH,aF,aC,IntKind.i64.wrap (aP + x36))
   else
    fB N aB aD aH aF aC aQ bM dG cY counted (IntKind.i64.wrap (aP + x36))
 else
  fB N aB aD aH aF aC aQ bM dG cY counted aP
def fD (N : Nat) (aB : List Int) (aD : Int) (aH : Int) (aF : List (List Int)) (aC : List aG) (aP : Int) (aQ : Int) (bM : List Int) (dG : Int) (cY : Int) (x8 : Bool) (x16 : Bool) : Option (Int × (List Int) × Int × Int × (List (List Int)) × (List aG) × Int) :=
 if x16 then
  (bS aC (IntKind.i64.wrap ((aC.length : Int) - 1))).bind fun x27 =>
  fF N aB aD aH aF aC aP aQ bM dG cY x27.outer
 else
  fF N aB aD aH aF aC aP aQ bM dG cY x8
def fJ (N : Nat) (aB : List Int) (aD : Int) (aH : Int) (aF : List (List Int)) (aC : List aG) (aP : Int) (aQ : Int) (bM : List Int) (dG : Int) (cY : Int) : Option (Int × (List Int) × Int × Int × (List (List Int)) × (List aG) × Int) :=
 (lG N aB aD aH aF aC aP).bind fun x8 =>
 if aQ == 15 then
  fD N aB aD aH aF aC aP aQ bM dG cY x8 true
 else
  fD N aB aD aH aF aC aP aQ bM dG cY x8 (aQ == 16)
def uB (N : Nat) (c0 : List Int) (rZ : Int) (rV : Int) (qW : Int) (l1 : List (List Int)) (l2 : List aG) : Option ((List (List Int)) × Int × Int) :=
 (nC N l1).bind fun x47 =>
 some (x47,qW,0)
def jU (N : Nat) (x17 : (List aM) × Int) : Nat → Int → (List Int) → Int → Int → Int → (List (List Int)) → (List aG) → Option (LR ((List Int) × Int × Int × Int × (List (List Int)) × (List aG)) ((List (List Int)) × Int × Int))
 | 0,_,_,_,_,_,_,_ => none
 | m + 1,x35,wT,c0_5,c0_6,c0_7,fT,l3 =>
  if decide (x35 < (x17.1.length : Int)) then
   (bS x17.1 x35).bind fun x37 =>
   (fJ N wT c0_5 c0_6 fT l3 c0_7 x37.Code x37.Data x37.M x37.N).bind fun x40 =>
   if x40.1 != 0 then
    some (.ret ([],0,x40.1))
   else
    (jU N x17 m) (IntKind.i64.wrap (x35 + 1)) x40.2.1 x40.2.2.1 x40.2.2.2.1 x40.2.2.2.2.2.2 x40.2.2.2.2.1 x40.2.2.2.2.2.1
  else
   some (.brk (wT,c0_5,c0_6,c0_7,fT,l3))
def p9 (N : Nat) (b : List Int) (stack : List (List Int)) (dK : List Int) (eH : Int) (kR : Int) : Option ((List (List Int)) × Int × Int) :=
 (rD N b).bind fun x17 =>
 if x17.2 != 0 then
  some ([],0,x17.2)
 else
  (qK N x17.1).bind fun fO =>
  if !fO then
   some ([],0,86)
  else
   (pT N stack).bind fun x27 =>
   if !x27 then
    some ([],0,4)
   else
    (nC N stack).bind fun dL =>
    (jU N x17 N 0 dK eH kR 0 dL []).bind fun q => match q with
     | .ret v => some v
     | .brk p2 =>
      uB N p2.1 p2.2.1 p2.2.2.1 p2.2.2.2.1 p2.2.2.2.2.1 p2.2.2.2.2.2
def jX (N : Nat) (x0 : Bool) : Option Bool :=
 some x0
def yY (N : Nat) : Option Bool :=
 (p9 N [2,5] [[7]] (List.replicate 32 0) 0 0).bind fun bX =>
 (gO N [1,0]).bind fun x17 =>
 if bX.2.2 == 0 then
  if bX.2.1 == 2 then
   if (bX.1.length : Int) == 1 then
    (bS bX.1 0).bind fun kY =>
    if (kY.length : Int) == 1 then
     if x17.2 == 82 then
      (eR N 0).bind fun x43 =>
      jX N ((x43.length : Int) == 0)
     else
      jX N false
    else
     jX N false
   else
    jX N false
  else
   jX N false
 else
  jX N false
def yM (N : Nat) : Option Bool :=
 some true
def j5 (N : Nat) (l : List (List Int)) (vm : Int) : Nat → Int → Option (LR (Unit) (Bool))
 | 0,_ => none
 | m + 1,x15 =>
  if decide (x15 < (l.length : Int)) then
   (bS l x15).bind fun x17 =>
   if decide (vm < (x17.length : Int)) then
    some (.ret false)
   else
    (j5 N l vm m) (IntKind.i64.wrap (x15 + 1))
  else
   some (.brk ())
def vY (N : Nat) (l : List (List Int)) (vn : Int) (vm : Int) : Option Bool :=
 if decide (vn < (l.length : Int)) then
  some false
 else
  (j5 N l vm N 0).bind fun q => match q with
   | .ret v => some v
   | .brk p2 =>
    yM N
def fC (N : Nat) (x40 : Bool) : Option Int :=
 if x40 then
  some 5
 else
  some 0
def fE (N : Nat) (aJ : Int) (aX : List Int) (o_M : Int) (o_N : Int) (eE : Bool) : Option Int :=
 if eE then
  some 6
 else
  if decide (255 < (aX.length : Int)) then
   some 4
  else
   if aJ == 11 then
    if decide (o_N < 1) then
     fC N true
    else
     if decide (15 < o_N) then
      fC N true
     else
      if decide (o_M < 1) then
       fC N true
      else
       fC N (decide (o_N < o_M))
   else
    fC N false
def kC (N : Nat) (aJ : Int) (aX : List Int) (o_M : Int) (o_N : Int) (aBi : Bool) : Option Int :=
 if aBi then
  fE N aJ aX o_M o_N aBi
 else
  if o_M != 0 then
   fE N aJ aX o_M o_N (aJ != 11)
  else
   if o_N != 0 then
    fE N aJ aX o_M o_N (aJ != 11)
   else
    fE N aJ aX o_M o_N false
def kE (N : Nat) (aJ : Int) (aX : List Int) (o_M : Int) (o_N : Int) (x3 : Bool) : Option Int :=
 if x3 then
  some 80
 else
  if decide (0 < (aX.length : Int)) then
   kC N aJ aX o_M o_N (aJ != 1)
  else
   kC N aJ aX o_M o_N false
def kQ (N : Nat) (aJ : Int) (aX : List Int) (o_M : Int) (o_N : Int) : Option Int :=
 if decide (aJ < 1) then
  kE N aJ aX o_M o_N true
 else
  kE N aJ aX o_M o_N (decide (17 < aJ))
def u7 (N : Nat) (va : List Int) (b : List Int) : Option (List Int) :=
 (mks 1 0 (IntKind.i64.wrap ((va.length : Int) + (b.length : Int)))).bind fun bX =>
 (eZ 1 (bX.take 0) va).bind fun bC =>
 (eZ 1 bC b).bind fun x16 =>
 some x16
def yU (N : Nat) (l0 : List Int) : Option (List Int) :=
 some l0
def jY (N : Nat) (l : List (List Int)) : Nat → Int → (List Int) → Option (List Int)
 | 0,_,_ => none
 | m + 1,x8,aK =>
  if decide (x8 < (l.length : Int)) then
   (bS l x8).bind fun b8 =>
   (u7 N aK b8).bind fun bC =>
   (jY N l m) (IntKind.i64.wrap (x8 + 1)) bC
  else
   some aK
def lQ (N : Nat) (l : List (List Int)) : Option (List Int) :=
 (jY N l N 0 []).bind fun p2 =>
 yU N p2
def kZ (N : Nat) (x8 : Int) (b_1 : List Int) (c1 : Int) (wR : Int) (l2 : List Int) : Option (Int × (List Int) × Int × Int × (List Int) × Int) :=
 (kQ N (IntKind.i64.wrap x8) l2 c1 wR).bind fun x76 =>
 some (IntKind.i64.wrap x8,l2,c1,wR,b_1,x76)
def sF (N : Nat) (x8 : Int) (bN : List Int) (x39 : Bool) : Option (Int × (List Int) × Int × Int × (List Int) × Int) :=
 if x39 then
  some (0,[],0,0,[],1)
 else
  (bS bN 0).bind fun x42 =>
  (sub bN 1 (IntKind.i64.wrap (1 + (IntKind.i64.wrap x42)))).bind fun x48 =>
  (lQ N [x48]).bind fun x50 =>
  (sub bN (IntKind.i64.wrap (1 + (IntKind.i64.wrap x42))) (bN.length : Int)).bind fun x53 =>
  kZ N x8 x53 0 0 x50
def rG (N : Nat) (b : List Int) (x8 : Int) (x19 : Bool) : Option (Int × (List Int) × Int × Int × (List Int) × Int) :=
 if x19 then
  some (0,[],0,0,[],80)
 else
  (sub b 1 (b.length : Int)).bind fun bN =>
  if (IntKind.i64.wrap x8) == 1 then
   if (bN.length : Int) == 0 then
    sF N x8 bN true
   else
    (bS bN 0).bind fun x35 =>
    sF N x8 bN (decide ((IntKind.i64.wrap ((bN.length : Int) - 1)) < (IntKind.i64.wrap x35)))
  else
   if (IntKind.i64.wrap x8) == 11 then
    if decide ((bN.length : Int) < 2) then
     some (0,[],0,0,[],1)
    else
     (bS bN 0).bind fun x62 =>
     (bS bN 1).bind fun x66 =>
     (sub bN 2 (bN.length : Int)).bind fun x70 =>
     kZ N x8 x70 (IntKind.i64.wrap x62) (IntKind.i64.wrap x66) []
   else
    kZ N x8 bN 0 0 []
def xO (N : Nat) (b : List Int) : Option (Int × (List Int) × Int × Int × (List Int) × Int) :=
 (bS b 0).bind fun x8 =>
 if decide ((IntKind.i64.wrap x8) < 1) then
  rG N b x8 true
 else
  rG N b x8 (decide (17 < (IntKind.i64.wrap x8)))
def wV (N : Nat) (l0 : List aM) : Option ((List aM) × Int) :=
 some (l0,0)
def kD (N : Nat) : Nat → (List Int) → (List aM) → Option (LR ((List aM)) ((List aM) × Int))
 | 0,_,_ => none
 | m + 1,b_1,aK =>
  if decide (0 < (b_1.length : Int)) then
   (xO N b_1).bind fun x16 =>
   if x16.2.2.2.2.2 != 0 then
    some (.ret ([],x16.2.2.2.2.2))
   else
    (eZ 48 aK [(aM.mk x16.1 x16.2.1 x16.2.2.1 x16.2.2.2.1)]).bind fun x26 =>
    (kD N m) x16.2.2.2.2.1 x26
  else
   some (.brk aK)
def tU (N : Nat) (b : List Int) : Option ((List aM) × Int) :=
 if decide (520 < (b.length : Int)) then
  some ([],4)
 else
  (kD N N b []).bind fun q => match q with
   | .ret v => some v
   | .brk p2 =>
    wV N p2
def u2 (N : Nat) (l0 : List Bool) : Option Bool :=
 some ((l0.length : Int) == 0)
def jM (N : Nat) (l : List aM) (x8 : Int) (rec : Int → (List Bool) → Option (LR ((List Bool)) (Bool))) (iP : List Bool) : Option (LR ((List Bool)) (Bool)) :=
 rec (IntKind.i64.wrap (x8 + 1)) iP
def nX (N : Nat) (l : List aM) (x8 : Int) (aK : List Bool) (rec : Int → (List Bool) → Option (LR ((List Bool)) (Bool))) (dL : Bool) : Option (LR ((List Bool)) (Bool)) :=
 if dL then
  some (.ret false)
 else
  (bS aK (IntKind.i64.wrap ((aK.length : Int) - 1))).bind fun x36 =>
  jM N l x8 rec (aK.set (Int.toNat (IntKind.i64.wrap ((aK.length : Int) - 1))) true)
def dD (N : Nat) (l : List aM) : Nat → Int → (List Bool) → Option (LR ((List Bool)) (Bool))
 | 0,_,_ => none
 | m + 1,x8,aK =>
  if decide (x8 < (l.length : Int)) then
   (bS l x8).bind fun b8 =>
   if b8.Code == 14 then
    (eZ 1 aK [false]).bind fun x18 =>
    jM N l x8 (dD N l m) x18
   else
    if b8.Code == 15 then
     if (aK.length : Int) == 0 then
      nX N l x8 aK (dD N l m) true
     else
      (bS aK (IntKind.i64.wrap ((aK.length : Int) - 1))).bind fun x29 =>
      nX N l x8 aK (dD N l m) x29
    else
     if b8.Code == 16 then
      if (aK.length : Int) == 0 then
       some (.ret false)
      else
       (sub aK 0 (IntKind.i64.wrap ((aK.length : Int) - 1))).bind fun x46 =>
       jM N l x8 (dD N l m) x46
     else
      jM N l x8 (dD N l m) aK
  else
   some (.brk aK)
def rI (N : Nat) (l : List aM) : Option Bool :=
 (dD N l N 0 []).bind fun q => match q with
  | .ret v => some v
  | .brk p2 =>
   u2 N p2
def yT (N : Nat) : Option Bool :=
 some false
def jV (N : Nat) (vs : List (List Int)) : Nat → Int → Option (LR (Unit) (Bool))
 | 0,_ => none
 | m + 1,b8 =>
  if decide (b8 < (vs.length : Int)) then
   (bS vs b8).bind fun eE =>
   if decide (520 < (eE.length : Int)) then
    some (.ret true)
   else
    (jV N vs m) (IntKind.i64.wrap (b8 + 1))
  else
   some (.brk ())
def vS (N : Nat) (vs : List (List Int)) : Option Bool :=
 if decide (64 < (vs.length : Int)) then
  some true
 else
  (jV N vs N 0).bind fun q => match q with
   | .ret v => some v
   | .brk p2 =>
    yT N
def vU (N : Nat) (l0 : List (List Int)) : Option (List (List Int)) :=
 some l0
def iA (N : Nat) (l : List (List Int)) : Nat → Int → (List (List Int)) → Option (List (List Int))
 | 0,_,_ => none
 | m + 1,bX,aK =>
  if decide (bX < (l.length : Int)) then
   (bS l bX).bind fun cD =>
   (lQ N [cD]).bind fun x18 =>
   (eZ 24 aK [x18]).bind fun bE =>
   (iA N l m) (IntKind.i64.wrap (bX + 1)) bE
  else
   some aK
def sC (N : Nat) (l : List (List Int)) : Option (List (List Int)) :=
 (mks 24 ([] : List Int) (l.length : Int)).bind fun x8 =>
 (iA N l N 0 []).bind fun p2 =>
 vU N p2
def lD (N : Nat) (x2 : Bool) : Option Bool :=
 some x2
def r3 (N : Nat) (l : List aR) : Option Bool :=
 if (l.length : Int) == 0 then
  lD N true
 else
  (bS l (IntKind.i64.wrap ((l.length : Int) - 1))).bind fun bX =>
  if bX.reached then
   lD N bX.done
  else
   lD N false
def xK (N : Nat) (aJ : Int) (aX : List Int) (o_M : Int) (o_N : Int) : Option Int :=
 if aJ == 8 then
  some 6
 else
  if aJ == 10 then
   some 21
  else
   if aJ == 11 then
    some (IntKind.i64.wrap (1 + (IntKind.i64.wrap (20 * o_N))))
   else
    some 1
def lY (N : Nat) (aJ : Int) (aX : List Int) (o_M : Int) (o_N : Int) (x15 : Bool) : Option Int :=
 if x15 then
  some 2
 else
  if aJ == 11 then
   some (IntKind.i64.wrap (2 * o_N))
  else
   some 0
def dX (N : Nat) (aJ : Int) (aX : List Int) (o_M : Int) (o_N : Int) (x5 : Bool) : Option Int :=
 if x5 then
  some 1
 else
  if aJ == 4 then
   lY N aJ aX o_M o_N (aJ == 4)
  else
   if aJ == 5 then
    lY N aJ aX o_M o_N (aJ == 5)
   else
    lY N aJ aX o_M o_N (aJ == 10)
def tS (N : Nat) (aJ : Int) (aX : List Int) (o_M : Int) (o_N : Int) : Option Int :=
 if aJ == 2 then
  dX N aJ aX o_M o_N (aJ == 2)
 else
  if aJ == 3 then
   dX N aJ aX o_M o_N (aJ == 3)
  else
   if aJ == 6 then
    dX N aJ aX o_M o_N (aJ == 6)
   else
    if aJ == 7 then
     dX N aJ aX o_M o_N (aJ == 7)
    else
     if aJ == 8 then
      dX N aJ aX o_M o_N (aJ == 8)
     else
      if aJ == 9 then
       dX N aJ aX o_M o_N (aJ == 9)
      else
       if aJ == 12 then
        dX N aJ aX o_M o_N (aJ == 12)
       else
        if aJ == 13 then
         dX N aJ aX o_M o_N (aJ == 13)
        else
         dX N aJ aX o_M o_N (aJ == 14)
def yP (N : Nat) : Option Bool :=
 some false
def lM (N : Nat) (b : List Int) : Nat → Int → Option (LR (Unit) (Bool))
 | 0,_ => none
 | m + 1,x7 =>
  if decide (x7 < (b.length : Int)) then
   (bS b x7).bind fun x9 =>
   if x9 != 0 then
    some (.ret true)
   else
    (lM N b m) (IntKind.i64.wrap (x7 + 1))
  else
   some (.brk ())
def lR (N : Nat) (b : List Int) : Option Bool :=
 (lM N b N 0).bind fun q => match q with
  | .ret v => some v
  | .brk p2 =>
   yP N
def k5 (N : Nat) (vs : List (List Int)) (eF : List Int) : Option ((List (List Int)) × Int) :=
 if decide (64 ≤ (vs.length : Int)) then
  some ([],4)
 else
  (sub vs 0 (vs.length : Int)).bind fun bC =>
  (eZ 24 bC [eF]).bind fun x17 =>
  some (x17,0)
def tC (N : Nat) (va : List Int) (b : List Int) : Option Bool :=
 some ((nS va).toList == (nS b).toList)
def yK (N : Nat) (l0 : List Int) : Option (List Int) :=
 some l0
def lJ (N : Nat) : Nat → Int → (List Int) → Option (List Int)
 | 0,_,_ => none
 | m + 1,cX,aK =>
  if decide (0 < cX) then
   (eZ 1 aK [IntKind.u8.wrap cX]).bind fun eE =>
   (lJ N m) (IntKind.u32.wrap (Int.tdiv cX 256)) eE
  else
   some aK
def qC (N : Nat) (vn : Int) : Option (List Int) :=
 (lJ N N vn []).bind fun p2 =>
 yK N p2
def kS (N : Nat) (b : Bool) : Option (List Int) :=
 if b then
  (qC N 1).bind fun x4 =>
  some x4
 else
  (qC N 0).bind fun x5 =>
  some x5
def aAb (N : Nat) (aK : List Int) : Option (List Int) :=
 some aK
def k7 (N : Nat) (vn : Int) : Nat → Int → (List Int) → Option (List Int)
 | 0,_,_ => none
 | m + 1,vi,iP =>
  if decide (0 ≤ vi) then
   (shr .u64 (IntKind.u64.wrap (8 * vn)) (IntKind.i64.wrap (8 * vi))).bind fun x26 =>
   (eZ 1 iP [IntKind.u8.wrap x26]).bind fun x29 =>
   (k7 N vn m) (IntKind.i64.wrap (vi - 1)) x29
  else
   some iP
def u5 (N : Nat) (vn : Int) (l0 : List Int) : Option (List Int) :=
 (k7 N vn N 7 l0).bind fun p3 =>
 aAb N p3
def mF (N : Nat) (vn : Int) : Nat → (List Int) → Option (List Int)
 | 0,_ => none
 | m + 1,kX =>
  if (Int.tmod (IntKind.u64.wrap ((IntKind.u64.wrap (vn + (IntKind.u64.wrap (kX.length : Int)))) + 8)) 64) != 0 then
   (eZ 1 kX [0]).bind fun x16 =>
   (mF N vn m) x16
  else
   some kX
def xV (N : Nat) (vn : Int) : Option (List Int) :=
 (mF N vn N [128]).bind fun p4 =>
 u5 N vn p4
def t9 (N : Nat) : Option (List Int) :=
 some [1779033703,3144134277,1013904242,2773480762,1359893119,2600822924,528734635,1541459225]
def gT (N : Nat) (x : Int) (vn : Int) : Option Int :=
 (iD N x (IntKind.i64.wrap (0 - vn))).bind fun x8 =>
 some x8
def oT (N : Nat) (dV : List Int) : Option (List Int) :=
 (aS 64 dV).bind fun q =>
 some dV
def g9 (N : Nat) : Nat → Int → (List Int) → Option (List Int)
 | 0,_,_ => none
 | m + 1,vi,l1_2 =>
  if decide (vi < 64) then
   (bB 64 l1_2 (IntKind.i64.wrap (vi - 15))).bind fun x49 =>
   (gT N x49 7).bind fun x51 =>
   (gT N x49 18).bind fun x56 =>
   (shr .u32 x49 3).bind fun x62 =>
   (bB 64 l1_2 (IntKind.i64.wrap (vi - 2))).bind fun x66 =>
   (gT N x66 17).bind fun x68 =>
   (gT N x66 19).bind fun x73 =>
   (shr .u32 x66 10).bind fun x79 =>
   (bB 64 l1_2 (IntKind.i64.wrap (vi - 16))).bind fun x84 =>
   (bB 64 l1_2 (IntKind.i64.wrap (vi - 7))).bind fun x90 =>
   (bB 64 l1_2 vi).bind fun x95 =>
   (g9 N m) (IntKind.i64.wrap (vi + 1)) (l1_2.set (Int.toNat vi) (IntKind.u32.wrap ((IntKind.u32.wrap ((IntKind.u32.wrap (x84 + (bits .xor .u32 (bits .xor .u32 x51 x56) x62))) + x90)) + (bits .xor .u32 (bits .xor .u32 x68 x73) x79))))
  else
   some l1_2
def oY (N : Nat) (l1 : List Int) : Option (List Int) :=
 (g9 N N 16 l1).bind fun p3 =>
 oT N p3
def eN (N : Nat) (block : List Int) : Nat → Int → (List Int) → Option (List Int)
 | 0,_,_ => none
 | m + 1,vi_1,l2 =>
  if decide (vi_1 < 16) then
   (bB 64 block (IntKind.i64.wrap (4 * vi_1))).bind fun x15 =>
   (shl .u32 (IntKind.u32.wrap x15) 24).bind fun x18 =>
   (bB 64 block (IntKind.i64.wrap ((IntKind.i64.wrap (4 * vi_1)) + 1))).bind fun bN =>
   (shl .u32 (IntKind.u32.wrap bN) 16).bind fun x25 =>
   (bB 64 block (IntKind.i64.wrap ((IntKind.i64.wrap (4 * vi_1)) + 2))).bind fun lA =>
   (shl .u32 (IntKind.u32.wrap lA) 8).bind fun kY =>
   (bB 64 block (IntKind.i64.wrap ((IntKind.i64.wrap (4 * vi_1)) + 3))).bind fun x38 =>
   (bB 64 l2 vi_1).bind fun x42 =>
   (eN N block m) (IntKind.i64.wrap (vi_1 + 1)) (l2.set (Int.toNat vi_1) (bits .or .u32 (bits .or .u32 (bits .or .u32 x18 x25) kY) (IntKind.u32.wrap x38)))
  else
   some l2
def pR (N : Nat) (block : List Int) : Option (List Int) :=
 (eN N block N 0 (List.replicate 64 0)).bind fun p4 =>
 oY N p4
def qZ (N : Nat) : Option (List Int) :=
 some [1116352408,1899447441,3049323471,3921009573,961987163,1508970993,2453635748,2870763221,3624381080,310598401,607225278,1426881987,1925078388,2162078206,2614888103,3248222580,3835390401,4022224774,264347078,604807628,770255983,1249150122,1555081692,1996064986,2554220882,2821834349,2952996808,3210313671,3336571891,3584528711,113926993,338241895,666307205,773529912,1294757372,1396182291,1695183700,1986661051,2177026350,2456956037,2730485921,2820302411,3259730800,3345764771,3516065817,3600352804,4094571909,275423344,430227734,506948616,659060556,883997877,958139571,1322822218,1537002063,1747873779,1955562222,2024104815,2227730452,2361852424,2428436474,2756734187,3204031479,3329325298]
def oW (N : Nat) (bY : List Int) (va : Int) (b : Int) (c : Int) (d : Int) (ve : Int) (f : Int) (g : Int) (vh : Int) : Option (List Int) :=
 (bB 8 bY 0).bind fun aKm =>
 (bB 8 bY 1).bind fun yG =>
 (bB 8 bY 2).bind fun aKt =>
 (bB 8 bY 3).bind fun aLa =>
 (bB 8 bY 4).bind fun aKp =>
 (bB 8 bY 5).bind fun aJ6 =>
 (bB 8 bY 6).bind fun aEC =>
 (bB 8 bY 7).bind fun aLl =>
 some [IntKind.u32.wrap (aKm + va),IntKind.u32.wrap (yG + b),IntKind.u32.wrap (aKt + c),IntKind.u32.wrap (aLa + d),IntKind.u32.wrap (aKp + ve),IntKind.u32.wrap (aJ6 + f),IntKind.u32.wrap (aEC + g),IntKind.u32.wrap (aLl + vh)]
def hY (N : Nat) (bY : List Int) (x19 : (List Int)) (bE : (List Int)) : Nat → Int → Int → Int → Int → Int → Int → Int → Int → Int → Option (Int × Int × Int × Int × Int × Int × Int × Int)
 | 0,_,_,_,_,_,_,_,_,_ => none
 | m + 1,va_1,b_1,c_1,d_1,ve_1,f_1,g_1,vh_1,vi =>
  if decide (vi < 64) then
   (gT N ve_1 6).bind fun x43 =>
   (gT N ve_1 11).bind fun x45 =>
   (gT N ve_1 25).bind fun x48 =>
   (bB 64 bE vi).bind fun x61 =>
   (bB 64 x19 vi).bind fun x65 =>
   (gT N va_1 2).bind fun x69 =>
   (gT N va_1 13).bind fun x71 =>
   (gT N va_1 22).bind fun x74 =>
   (hY N bY x19 bE m) (IntKind.u32.wrap ((IntKind.u32.wrap ((IntKind.u32.wrap ((IntKind.u32.wrap ((IntKind.u32.wrap (vh_1 + (bits .xor .u32 (bits .xor .u32 x43 x45) x48))) + (bits .xor .u32 (bits .and .u32 ve_1 f_1) (bits .and .u32 (bits .xor .u32 (IntKind.max .u32) ve_1) g_1)))) + x61)) + x65)) + (IntKind.u32.wrap ((bits .xor .u32 (bits .xor .u32 x69 x71) x74) + (bits .xor .u32 (bits .xor .u32 (bits .and .u32 va_1 b_1) (bits .and .u32 va_1 c_1)) (bits .and .u32 b_1 c_1)))))) va_1 b_1 c_1 (IntKind.u32.wrap (d_1 + (IntKind.u32.wrap ((IntKind.u32.wrap ((IntKind.u32.wrap ((IntKind.u32.wrap (vh_1 + (bits .xor .u32 (bits .xor .u32 x43 x45) x48))) + (bits .xor .u32 (bits .and .u32 ve_1 f_1) (bits .and .u32 (bits .xor .u32 (IntKind.max .u32) ve_1) g_1)))) + x61)) + x65)))) ve_1 f_1 g_1 (IntKind.i64.wrap (vi + 1))
  else
   some (va_1,b_1,c_1,d_1,ve_1,f_1,g_1,vh_1)
def l7 (N : Nat) (bY : List Int) (block : List Int) : Option (List Int) :=
 (aS 64 block).bind fun q =>
 (pR N block).bind fun x19 =>
 (qZ N).bind fun bE =>
 (aS 64 x19).bind fun q_1 =>
 (aS 64 bE).bind fun q_2 =>
 (bB 8 bY 0).bind fun dI =>
 (bB 8 bY 1).bind fun fN =>
 (bB 8 bY 2).bind fun x25 =>
 (bB 8 bY 3).bind fun x27 =>
 (bB 8 bY 4).bind fun x29 =>
 (bB 8 bY 5).bind fun dL =>
 (bB 8 bY 6).bind fun kY =>
 (bB 8 bY 7).bind fun x35 =>
 (hY N bY x19 bE N dI fN x25 x27 x29 dL kY x35 0).bind fun p2 =>
 oW N bY p2.1 p2.2.1 p2.2.2.1 p2.2.2.2.1 p2.2.2.2.2.1 p2.2.2.2.2.2.1 p2.2.2.2.2.2.2.1 p2.2.2.2.2.2.2.2
def vA (N : Nat) (dV : List Int) : Option (List Int) :=
 (aS 32 dV).bind fun q_1 =>
 some dV
def mT (N : Nat) (l1 : List Int) : Nat → Int → (List Int) → Option (List Int)
 | 0,_,_ => none
 | m + 1,e8,l1_2 =>
  if decide (e8 < 8) then
   (bB 8 l1 e8).bind fun x37 =>
   (shr .u32 x37 24).bind fun x50 =>
   (shr .u32 x37 16).bind fun x53 =>
   (shr .u32 x37 8).bind fun x56 =>
   (bB 32 l1_2 (IntKind.i64.wrap (4 * e8))).bind fun x60 =>
   (bB 32 (l1_2.set (Int.toNat (IntKind.i64.wrap (4 * e8))) (IntKind.u8.wrap x50)) (IntKind.i64.wrap ((IntKind.i64.wrap (4 * e8)) + 1))).bind fun x61 =>
   (bB 32 ((l1_2.set (Int.toNat (IntKind.i64.wrap (4 * e8))) (IntKind.u8.wrap x50)).set (Int.toNat (IntKind.i64.wrap ((IntKind.i64.wrap (4 * e8)) + 1))) (IntKind.u8.wrap x53)) (IntKind.i64.wrap ((IntKind.i64.wrap (4 * e8)) + 2))).bind fun x62 =>
   (bB 32 (((l1_2.set (Int.toNat (IntKind.i64.wrap (4 * e8))) (IntKind.u8.wrap x50)).set (Int.toNat (IntKind.i64.wrap ((IntKind.i64.wrap (4 * e8)) + 1))) (IntKind.u8.wrap x53)).set (Int.toNat (IntKind.i64.wrap ((IntKind.i64.wrap (4 * e8)) + 2))) (IntKind.u8.wrap x56)) (IntKind.i64.wrap ((IntKind.i64.wrap (4 * e8)) + 3))).bind fun x63 =>
   (mT N l1 m) (IntKind.i64.wrap (e8 + 1)) ((((l1_2.set (Int.toNat (IntKind.i64.wrap (4 * e8))) (IntKind.u8.wrap x50)).set (Int.toNat (IntKind.i64.wrap ((IntKind.i64.wrap (4 * e8)) + 1))) (IntKind.u8.wrap x53)).set (Int.toNat (IntKind.i64.wrap ((IntKind.i64.wrap (4 * e8)) + 2))) (IntKind.u8.wrap x56)).set (Int.toNat (IntKind.i64.wrap ((IntKind.i64.wrap (4 * e8)) + 3))) (IntKind.u8.wrap x37))
  else
   some l1_2
def vK (N : Nat) (l1 : List Int) : Option (List Int) :=
 (aS 8 l1).bind fun q_2 =>
 (mT N l1 N 0 (List.replicate 32 0)).bind fun p3 =>
 vA N p3
def mY (N : Nat) (x16 : List Int) : Nat → Int → (List Int) → Option (List Int)
 | 0,_,_ => none
 | m + 1,vi,l1_3 =>
  if decide ((IntKind.i64.wrap (vi + 64)) ≤ (x16.length : Int)) then
   (sub x16 vi (x16.length : Int)).bind fun x28 =>
   (aS 8 l1_3).bind fun q_3 =>
   (aS 64 (j9 (List.replicate 64 0) x28)).bind fun q_4 =>
   (l7 N l1_3 (j9 (List.replicate 64 0) x28)).bind fun pK =>
   (aS 8 pK).bind fun q_5 =>
   (mY N x16 m) (IntKind.i64.wrap (vi + 64)) pK
  else
   some l1_3
def sE (N : Nat) (b : List Int) : Option (List Int) :=
 (eZ 1 [] b).bind fun bX =>
 (xV N (IntKind.u64.wrap (b.length : Int))).bind fun x15 =>
 (eZ 1 bX x15).bind fun x16 =>
 (t9 N).bind fun x17 =>
 (aS 8 x17).bind fun q =>
 (mY N x16 N 0 x17).bind fun p4 =>
 vK N p4
def nF (N : Nat) (l1 : List Int) : Option (List Int) :=
 (aS 4 l1).bind fun q =>
 some l1
def gF (N : Nat) (vh : List Int) : Nat → Int → (List Int) → Option (List Int)
 | 0,_,_ => none
 | m + 1,x6,l2 =>
  if decide (x6 < 32) then
   (bB 4 l2 (IntKind.i64.wrap (Int.tdiv (IntKind.i64.wrap (31 - x6)) 8))).bind fun cD =>
   (bB 32 vh x6).bind fun x16 =>
   (shl .u64 (IntKind.u64.wrap x16) (IntKind.i64.wrap (8 * (Int.tmod (IntKind.i64.wrap (31 - x6)) 8)))).bind fun bN =>
   (gF N vh m) (IntKind.i64.wrap (x6 + 1)) (l2.set (Int.toNat (IntKind.i64.wrap (Int.tdiv (IntKind.i64.wrap (31 - x6)) 8))) (bits .or .u64 cD bN))
  else
   some l2
def fP (N : Nat) (vh : List Int) : Option (List Int) :=
 (gF N vh N 0 (List.replicate 4 0)).bind fun p2 =>
 nF N p2
def eP (N : Nat) (vn : Int) : Option (List Int) :=
 some [vn,0,0,0]
def nK (N : Nat) (va : List Int) : Option Bool :=
 (aS 4 va).bind fun q =>
 some (va == [0,0,0,0])
def vG (N : Nat) (borrow : Int) (l1 : List Int) : Option ((List Int) × Bool) :=
 (aS 4 l1).bind fun q =>
 some (l1,borrow == 1)
def mV (N : Nat) (va : List Int) (b : List Int) : Nat → Int → Int → (List Int) → Option (Int × (List Int))
 | 0,_,_,_ => none
 | m + 1,borrow_1,x9,l3 =>
  if decide (x9 < 4) then
   (bB 4 va x9).bind fun x15 =>
   (bB 4 b x9).bind fun x18 =>
   (oB N x15 x18 borrow_1).bind fun dI =>
   (bB 4 l3 x9).bind fun fO =>
   (mV N va b m) dI.2 (IntKind.i64.wrap (x9 + 1)) (l3.set (Int.toNat x9) dI.1)
  else
   some (borrow_1,l3)
def nM (N : Nat) (va : List Int) (b : List Int) : Option ((List Int) × Bool) :=
 (mV N va b N 0 0 (List.replicate 4 0)).bind fun p2 =>
 vG N p2.1 p2.2
def j6 (N : Nat) : Option (List Int) :=
 (eP N 36113).bind fun x5 =>
 (nM N [0,0,0,0] x5).bind fun x6 =>
 (aS 4 x6.1).bind fun q =>
 some x6.1
def zV (N : Nat) : Option Int :=
 some 0
def mP (N : Nat) (va : List Int) (b : List Int) : Nat → Int → Option (LR (Unit) (Int))
 | 0,_ => none
 | m + 1,vi =>
  if decide (0 ≤ vi) then
   (bB 4 va vi).bind fun bX =>
   (bB 4 b vi).bind fun bC =>
   if decide (bX < bC) then
    some (.ret (-1))
   else
    if decide (bC < bX) then
     some (.ret 1)
    else
     (mP N va b m) (IntKind.i64.wrap (vi - 1))
  else
   some (.brk ())
def nR (N : Nat) (va : List Int) (b : List Int) : Option Int :=
 (mP N va b N 3).bind fun q => match q with
  | .ret v => some v
  | .brk p2 =>
   zV N
def k4 (N : Nat) (va : List Int) (vi : Int) : Option Bool :=
 (bB 4 va (IntKind.i64.wrap (Int.tdiv vi 64))).bind fun x7 =>
 (shr .u64 x7 (Int.tmod vi 64)).bind fun bX =>
 some ((bits .and .u64 bX 1) == 1)
def aAm (N : Nat) (l1 : List Int) : Option (List Int) :=
 (aS 4 l1).bind fun q_1 =>
 some l1
def vZ (N : Nat) (va : List Int) (vn : Int) (vi : Int) (rec : Int → (List Int) → Option (List Int)) (fT : List Int) : Option (List Int) :=
 rec (IntKind.i64.wrap (vi + 1)) fT
def fZ (N : Nat) (va : List Int) (vn : Int) : Nat → Int → (List Int) → Option (List Int)
 | 0,_,_ => none
 | m + 1,vi,l2 =>
  if decide ((IntKind.i64.wrap (vi + vn)) < 256) then
   (aS 4 va).bind fun q_2 =>
   (k4 N va (IntKind.i64.wrap (vi + vn))).bind fun fN =>
   if fN then
    (bB 4 l2 (IntKind.i64.wrap (Int.tdiv vi 64))).bind fun x26 =>
    (shl .u64 1 (Int.tmod vi 64)).bind fun lA =>
    vZ N va vn vi (fZ N va vn m) (l2.set (Int.toNat (IntKind.i64.wrap (Int.tdiv vi 64))) (bits .or .u64 x26 lA))
   else
    vZ N va vn vi (fZ N va vn m) l2
  else
   some l2
def aAv (N : Nat) (va : List Int) (vn : Int) : Option (List Int) :=
 if decide (vn ≤ 0) then
  (aS 4 va).bind fun q =>
  some va
 else
  if decide (256 ≤ vn) then
   some [0,0,0,0]
  else
   (fZ N va vn N 0 (List.replicate 4 0)).bind fun p2 =>
   aAm N p2
def lV (N : Nat) : Option (List Int) :=
 (j6 N).bind fun x1 =>
 (aAv N x1 1).bind fun x2 =>
 (aS 4 x2).bind fun q =>
 some x2
def u9 (N : Nat) (iO : Int) (l1 : List Int) : Option ((List Int) × Bool) :=
 (aS 4 l1).bind fun q =>
 some (l1,iO == 1)
def mX (N : Nat) (va : List Int) (b : List Int) : Nat → Int → Int → (List Int) → Option (Int × (List Int))
 | 0,_,_,_ => none
 | m + 1,carry_1,x9,l3 =>
  if decide (x9 < 4) then
   (bB 4 va x9).bind fun x15 =>
   (bB 4 b x9).bind fun x18 =>
   (cS N x15 x18 carry_1).bind fun dI =>
   (bB 4 l3 x9).bind fun fO =>
   (mX N va b m) dI.2 (IntKind.i64.wrap (x9 + 1)) (l3.set (Int.toNat x9) dI.1)
  else
   some (carry_1,l3)
def sM (N : Nat) (va : List Int) (b : List Int) : Option ((List Int) × Bool) :=
 (mX N va b N 0 0 (List.replicate 4 0)).bind fun p2 =>
 u9 N p2.1 p2.2
def vF (N : Nat) (l0 : List Int) (l1 : List Int) : Option ((List Int) × (List Int) × Bool) :=
 (aS 4 l0).bind fun q_2 =>
 (aS 4 l1).bind fun q_3 =>
 some (l0,l1,true)
def pQ (N : Nat) (lo : List Int) (b : List Int) (vi : Int) (rec : Int → (List Int) → (List Int) → Option ((List Int) × (List Int))) (fT : List Int) (jA : List Int) : Option ((List Int) × (List Int)) :=
 rec (IntKind.i64.wrap (vi - 1)) fT jA
def mA (N : Nat) (lo : List Int) (b : List Int) (vi : Int) (l2 : List Int) (f7 : List Int) (rec : Int → (List Int) → (List Int) → Option ((List Int) × (List Int))) (x43 : Bool) : Option ((List Int) × (List Int)) :=
 if x43 then
  (aS 4 f7).bind fun q_6 =>
  (nM N f7 b).bind fun x47 =>
  (aS 4 x47.1).bind fun q_7 =>
  (bB 4 l2 (IntKind.i64.wrap (Int.tdiv vi 64))).bind fun x52 =>
  (shl .u64 1 (Int.tmod vi 64)).bind fun x56 =>
  pQ N lo b vi rec (l2.set (Int.toNat (IntKind.i64.wrap (Int.tdiv vi 64))) (bits .or .u64 x52 x56)) x47.1
 else
  pQ N lo b vi rec l2 f7
def pD (N : Nat) (lo : List Int) (b : List Int) (vi : Int) (l2 : List Int) (fN : Bool) (rec : Int → (List Int) → (List Int) → Option ((List Int) × (List Int))) (f7 : List Int) : Option ((List Int) × (List Int)) :=
 if fN then
  mA N lo b vi l2 f7 rec true
 else
  (aS 4 f7).bind fun q_8 =>
  (nR N f7 b).bind fun x41 =>
  mA N lo b vi l2 f7 rec (decide (0 ≤ x41))
def dQ (N : Nat) (lo : List Int) (b : List Int) : Nat → Int → (List Int) → (List Int) → Option ((List Int) × (List Int))
 | 0,_,_,_ => none
 | m + 1,vi,l2,l3 =>
  if decide (0 ≤ vi) then
   (aS 4 l3).bind fun q_4 =>
   (k4 N l3 255).bind fun fN =>
   (sM N l3 l3).bind fun x27 =>
   (aS 4 x27.1).bind fun q_5 =>
   (aS 4 lo).bind fun q_9 =>
   (k4 N lo vi).bind fun pK =>
   if pK then
    (bB 4 x27.1 0).bind fun kY =>
    pD N lo b vi l2 fN (dQ N lo b m) (x27.1.set (Int.toNat 0) (bits .or .u64 kY 1))
   else
    pD N lo b vi l2 fN (dQ N lo b m) x27.1
  else
   some (l2,l3)
def uT (N : Nat) (hi : List Int) (lo : List Int) (b : List Int) : Option ((List Int) × (List Int) × Bool) :=
 (aS 4 b).bind fun q =>
 (aS 4 hi).bind fun q_1 =>
 (nR N b hi).bind fun cD =>
 if decide (cD ≤ 0) then
  some (List.replicate 4 0,List.replicate 4 0,false)
 else
  (dQ N lo b N 255 (List.replicate 4 0) hi).bind fun p2 =>
  vF N p2.1 p2.2
def jP (N : Nat) (va : List Int) (vm : List Int) : Option (List Int) :=
 (aS 4 va).bind fun q =>
 (aS 4 vm).bind fun q_1 =>
 (uT N [0,0,0,0] va vm).bind fun eE =>
 (aS 4 eE.1).bind fun q_2 =>
 (aS 4 eE.2.1).bind fun q_3 =>
 some eE.2.1
def v4 (N : Nat) : Option Int :=
 some 0
def mR (N : Nat) (va : List Int) : Nat → Int → Option (LR (Unit) (Int))
 | 0,_ => none
 | m + 1,vi =>
  if decide (0 ≤ vi) then
   (aS 4 va).bind fun q =>
   (k4 N va vi).bind fun b8 =>
   if b8 then
    some (.ret (IntKind.i64.wrap (vi + 1)))
   else
    (mR N va m) (IntKind.i64.wrap (vi - 1))
  else
   some (.brk ())
def aAz (N : Nat) (va : List Int) : Option Int :=
 (mR N va N 255).bind fun q => match q with
  | .ret v => some v
  | .brk p2 =>
   v4 N
def rM (N : Nat) (l2 : List Int) : Option ((List Int) × (List Int)) :=
 (aS 8 l2).bind fun q =>
 (qY l2 0 4).bind fun x64 =>
 (qY l2 4 8).bind fun x67 =>
 (aS 4 (j9 (List.replicate 4 0) x67)).bind fun q_1 =>
 (aS 4 (j9 (List.replicate 4 0) x64)).bind fun q_2 =>
 some (j9 (List.replicate 4 0) x67,j9 (List.replicate 4 0) x64)
def uY (N : Nat) (va : List Int) (b : List Int) (x15 : Int) (rec : Int → (List Int) → Option (List Int)) (oZ : List Int) : Option (List Int) :=
 rec (IntKind.i64.wrap (x15 + 1)) oZ
def vJ (N : Nat) (va : List Int) (b : List Int) (x15 : Int) (rec : Int → (List Int) → Option (List Int)) (iO : Int) (uG : List Int) : Option (List Int) :=
 (bB 8 uG (IntKind.i64.wrap (x15 + 4))).bind fun x61 =>
 uY N va b x15 rec (uG.set (Int.toNat (IntKind.i64.wrap (x15 + 4))) iO)
def mC (N : Nat) (va : List Int) (b : List Int) (x15 : Int) : Nat → Int → Int → (List Int) → Option (Int × (List Int))
 | 0,_,_,_ => none
 | m + 1,carry_1,x18,l4_3 =>
  if decide (x18 < 4) then
   (bB 4 va x15).bind fun fN =>
   (bB 4 b x18).bind fun x26 =>
   (i9 N fN x26).bind fun x28 =>
   (bB 8 l4_3 (IntKind.i64.wrap (x15 + x18))).bind fun x35 =>
   (cS N x35 x28.2 0).bind fun x38 =>
   (cS N x38.1 carry_1 0).bind fun x44 =>
   (mC N va b x15 m) (IntKind.u64.wrap ((IntKind.u64.wrap (x28.1 + x38.2)) + x44.2)) (IntKind.i64.wrap (x18 + 1)) (l4_3.set (Int.toNat (IntKind.i64.wrap (x15 + x18))) x44.1)
  else
   some (carry_1,l4_3)
def jC (N : Nat) (va : List Int) (b : List Int) : Nat → Int → (List Int) → Option (List Int)
 | 0,_,_ => none
 | m + 1,x15,l4 =>
  if decide (x15 < 4) then
   (mC N va b x15 N 0 0 l4).bind fun p5 =>
   vJ N va b x15 (jC N va b m) p5.1 p5.2
  else
   some l4
def yD (N : Nat) (va : List Int) (b : List Int) : Option ((List Int) × (List Int)) :=
 (jC N va b N 0 (List.replicate 8 0)).bind fun p2 =>
 rM N p2
def mS (N : Nat) (va : List Int) (b : List Int) (vm : List Int) : Option (List Int) :=
 (aS 4 vm).bind fun q =>
 (nK N vm).bind fun cD =>
 if cD then
  some vm
 else
  (aS 4 va).bind fun q_1 =>
  (jP N va vm).bind fun x18 =>
  (aS 4 b).bind fun q_2 =>
  (jP N b vm).bind fun dI =>
  (yD N x18 dI).bind fun bN =>
  (aS 4 bN.1).bind fun q_3 =>
  (aS 4 bN.2).bind fun q_4 =>
  (uT N bN.1 bN.2 vm).bind fun x29 =>
  (aS 4 x29.1).bind fun q_5 =>
  (aS 4 x29.2.1).bind fun q_6 =>
  some x29.2.1
def vD (N : Nat) (l1 : List Int) : Option (List Int) :=
 (aS 4 l1).bind fun q_2 =>
 some l1
def lB (N : Nat) (va : List Int) (ve : List Int) (vm : List Int) (vi : Int) (rec : Int → (List Int) → Option (List Int)) (oZ : List Int) : Option (List Int) :=
 rec (IntKind.i64.wrap (vi - 1)) oZ
def fS (N : Nat) (va : List Int) (ve : List Int) (vm : List Int) : Nat → Int → (List Int) → Option (List Int)
 | 0,_,_ => none
 | m + 1,vi,l4 =>
  if decide (0 ≤ vi) then
   (aS 4 l4).bind fun q_4 =>
   (mS N l4 l4 vm).bind fun x25 =>
   (aS 4 x25).bind fun q_5 =>
   (k4 N ve vi).bind fun x28 =>
   if x28 then
    (aS 4 va).bind fun q_6 =>
    (mS N x25 va vm).bind fun pK =>
    (aS 4 pK).bind fun q_7 =>
    lB N va ve vm vi (fS N va ve vm m) pK
   else
    lB N va ve vm vi (fS N va ve vm m) x25
  else
   some l4
def r7 (N : Nat) (va : List Int) (ve : List Int) (vm : List Int) : Option (List Int) :=
 (aS 4 vm).bind fun q =>
 (nK N vm).bind fun b8 =>
 if b8 then
  some vm
 else
  (eP N 1).bind fun eE =>
  (jP N eE vm).bind fun bC =>
  (aS 4 bC).bind fun q_1 =>
  (aS 4 ve).bind fun q_3 =>
  (aAz N ve).bind fun x16 =>
  (fS N va ve vm N (IntKind.i64.wrap (x16 - 1)) bC).bind fun p2 =>
  vD N p2
def pV (N : Nat) (va : List Int) (ve : List Int) : Option (List Int) :=
 (aS 4 va).bind fun q =>
 (aS 4 ve).bind fun q_1 =>
 (j6 N).bind fun x7 =>
 (r7 N va ve x7).bind fun x8 =>
 (aS 4 x8).bind fun q_2 =>
 some x8
def aAu (N : Nat) : Option (List Int) :=
 (eP N 1).bind fun x1 =>
 (aS 4 x1).bind fun q =>
 some x1
def n8 (N : Nat) (x2 : Bool) : Option Bool :=
 some x2
def rC (N : Nat) (va : List Int) : Option Bool :=
 (aS 4 va).bind fun q =>
 (nK N va).bind fun x4 =>
 if !x4 then
  (j6 N).bind fun x8 =>
  (nR N va x8).bind fun x9 =>
  if decide (x9 < 0) then
   (lV N).bind fun bC =>
   (pV N va bC).bind fun x15 =>
   (aAu N).bind fun x16 =>
   (aS 4 x15).bind fun q_1 =>
   (aS 4 x16).bind fun q_2 =>
   n8 N (x15 == x16)
  else
   n8 N false
 else
  n8 N false
def sZ (N : Nat) (x2 : Bool) : Option Bool :=
 some x2
def qU (N : Nat) (p : List Int) : Option Bool :=
 (aS 4 p).bind fun q =>
 (eP N 1).bind fun x4 =>
 (aS 4 x4).bind fun q_1 =>
 if !(p == x4) then
  (rC N p).bind fun x8 =>
  sZ N x8
 else
  sZ N false
def lW (N : Nat) (va : List Int) : Option Bool :=
 (aS 4 va).bind fun q =>
 (lV N).bind fun x4 =>
 (nR N va x4).bind fun x5 =>
 some (decide (x5 < 0))
def q6 (N : Nat) (bE : (List Int)) (bN : (List Int)) (kY : Bool) : Option ((List Int) × (List Int) × Int) :=
 if kY then
  some (List.replicate 4 0,List.replicate 4 0,5)
 else
  some (bE,bN,0)
def rY (N : Nat) (b : List Int) : Option ((List Int) × (List Int) × Int) :=
 if (b.length : Int) != 64 then
  some (List.replicate 4 0,List.replicate 4 0,8)
 else
  (sub b 0 32).bind fun cD =>
  (sub b 32 (b.length : Int)).bind fun x17 =>
  (aS 32 (j9 (List.replicate 32 0) cD)).bind fun q =>
  (fP N (j9 (List.replicate 32 0) cD)).bind fun bE =>
  (aS 32 (j9 (List.replicate 32 0) x17)).bind fun q_1 =>
  (fP N (j9 (List.replicate 32 0) x17)).bind fun bN =>
  (aS 4 bE).bind fun q_2 =>
  (aS 4 bN).bind fun q_3 =>
  (lW N bE).bind fun x26 =>
  if !x26 then
   q6 N bE bN true
  else
   (lW N bN).bind fun dL =>
   q6 N bE bN (!dL)
def tI (N : Nat) (ve : List Int) : Option (List Int) :=
 (eP N 4).bind fun x3 =>
 (aS 4 ve).bind fun q =>
 (pV N x3 ve).bind fun x5 =>
 (aS 4 x5).bind fun q_1 =>
 some x5
def xW (N : Nat) (va : List Int) (b : List Int) : Option (List Int) :=
 (aS 4 va).bind fun q =>
 (aS 4 b).bind fun q_1 =>
 (j6 N).bind fun x7 =>
 (mS N va b x7).bind fun x8 =>
 (aS 4 x8).bind fun q_2 =>
 some x8
def wH (N : Nat) (l1 : List Int) : Option (List Int) :=
 (aS 32 l1).bind fun q =>
 some l1
def iZ (N : Nat) (va : List Int) : Nat → Int → (List Int) → Option (List Int)
 | 0,_,_ => none
 | m + 1,x6,l2 =>
  if decide (x6 < 32) then
   (bB 4 va (IntKind.i64.wrap (Int.tdiv (IntKind.i64.wrap (31 - x6)) 8))).bind fun bC =>
   (shr .u64 bC (IntKind.i64.wrap (8 * (Int.tmod (IntKind.i64.wrap (31 - x6)) 8)))).bind fun x19 =>
   (bB 32 l2 x6).bind fun dI =>
   (iZ N va m) (IntKind.i64.wrap (x6 + 1)) (l2.set (Int.toNat x6) (IntKind.u8.wrap x19))
  else
   some l2
def tV (N : Nat) (va : List Int) : Option (List Int) :=
 (iZ N va N 0 (List.replicate 32 0)).bind fun p2 =>
 wH N p2
def pA (N : Nat) (va : List Int) : Option (List Int) :=
 (aS 4 va).bind fun q =>
 (tV N va).bind fun x5 =>
 (aS 32 x5).bind fun q_1 =>
 some x5
def rS (N : Nat) (tag : ByteArray) (b : List Int) : Option (List Int) :=
 (stb tag).bind fun x7 =>
 (sE N x7).bind fun x8 =>
 (aS 32 x8).bind fun q =>
 (eZ 1 [] x8).bind fun b8 =>
 (eZ 1 b8 x8).bind fun eE =>
 (eZ 1 eE b).bind fun bC =>
 (sE N bC).bind fun x15 =>
 (aS 32 x15).bind fun q_1 =>
 some x15
def lF (N : Nat) (l1 : List Int) : Option (List Int) :=
 (aS 4 l1).bind fun q_6 =>
 some l1
def i7 (N : Nat) (vm : List Int) (dI : (List Int) × Bool) (lA : Bool) : Option (List Int) :=
 if lA then
  (nM N dI.1 vm).bind fun e8 =>
  (aS 4 e8.1).bind fun q_7 =>
  lF N e8.1
 else
  lF N dI.1
def sH (N : Nat) (va : List Int) (b : List Int) (vm : List Int) : Option (List Int) :=
 (aS 4 vm).bind fun q =>
 (nK N vm).bind fun b8 =>
 if b8 then
  some vm
 else
  (aS 4 va).bind fun q_1 =>
  (jP N va vm).bind fun bC =>
  (aS 4 b).bind fun q_2 =>
  (jP N b vm).bind fun x17 =>
  (aS 4 bC).bind fun q_3 =>
  (aS 4 x17).bind fun q_4 =>
  (sM N bC x17).bind fun dI =>
  (aS 4 dI.1).bind fun q_5 =>
  if dI.2 then
   i7 N vm dI true
  else
   (nR N dI.1 vm).bind fun x28 =>
   i7 N vm dI (decide (0 ≤ x28))
def nJ (N : Nat) (va : List Int) (b : List Int) : Option (List Int) :=
 (aS 4 va).bind fun q =>
 (aS 4 b).bind fun q_1 =>
 (lV N).bind fun x7 =>
 (sH N va b x7).bind fun x8 =>
 (aS 4 x8).bind fun q_2 =>
 some x8
def rQ (N : Nat) (vh : List Int) : Option (List Int) :=
 (aS 32 vh).bind fun q =>
 (fP N vh).bind fun x4 =>
 (nJ N x4 [0,0,0,0]).bind fun x6 =>
 (aS 4 x6).bind fun q_1 =>
 some x6
def nN (N : Nat) (vr : List Int) (p : List Int) (vm : List Int) : Option (List Int) :=
 (aS 4 vr).bind fun q =>
 (pA N vr).bind fun x8 =>
 (aS 4 p).bind fun q_1 =>
 (pA N p).bind fun b8 =>
 (aS 32 vm).bind fun q_2 =>
 (lQ N [x8,b8,vm]).bind fun cD =>
 (rS N (⟨#[108,105,103,104,116,99,108,105,101,110,116,47,99,104,97,108,108,101,110,103,101]⟩) cD).bind fun bC =>
 (rQ N bC).bind fun x15 =>
 (aS 4 x15).bind fun q_3 =>
 some x15
def jE (N : Nat) (p : List Int) (vm : List Int) (s_E : List Int) (s_S : List Int) (fO : Bool) : Option Bool :=
 if fO then
  some false
 else
  (lV N).bind fun x26 =>
  (aS 4 s_E).bind fun q =>
  (nM N x26 s_E).bind fun x29 =>
  (aS 4 x29.1).bind fun q_1 =>
  (aS 4 s_S).bind fun q_2 =>
  (tI N s_S).bind fun e8 =>
  (aS 4 p).bind fun q_3 =>
  (pV N p x29.1).bind fun x37 =>
  (xW N e8 x37).bind fun x38 =>
  (aS 4 x38).bind fun q_4 =>
  (aS 32 vm).bind fun q_5 =>
  (nN N x38 p vm).bind fun x44 =>
  (aS 4 x44).bind fun q_6 =>
  some (s_E == x44)
def r4 (N : Nat) (p : List Int) (vm : List Int) (s_E : List Int) (s_S : List Int) : Option Bool :=
 (aS 4 p).bind fun q_7 =>
 (qU N p).bind fun bX =>
 if !bX then
  jE N p vm s_E s_S true
 else
  (aS 4 s_E).bind fun q_8 =>
  (lW N s_E).bind fun x16 =>
  if !x16 then
   jE N p vm s_E s_S true
  else
   (aS 4 s_S).bind fun q_9 =>
   (lW N s_S).bind fun bN =>
   jE N p vm s_E s_S (!bN)
def nG (N : Nat) (x39 : Bool) : Option (Bool × Int) :=
 if x39 then
  some (false,61)
 else
  some (true,0)
def mN (N : Nat) (sig : List Int) (key : List Int) (vm : List Int) : Option (Bool × Int) :=
 if (key.length : Int) != 32 then
  some (false,60)
 else
  (aS 32 (j9 (List.replicate 32 0) key)).bind fun q =>
  (fP N (j9 (List.replicate 32 0) key)).bind fun x19 =>
  (aS 4 x19).bind fun q_1 =>
  (qU N x19).bind fun dI =>
  if !dI then
   some (false,60)
  else
   if (sig.length : Int) == 0 then
    some (false,0)
   else
    (rY N sig).bind fun x28 =>
    if x28.2.2 != 0 then
     nG N true
    else
     (aS 32 vm).bind fun q_2 =>
     (r4 N x19 vm x28.1 x28.2.1).bind fun x37 =>
     nG N (!x37)
def wE (N : Nat) (aJ : Int) (aX : List Int) (o_M : Int) (o_N : Int) (vn : Int) : Option (Bool × Int) :=
 some (decide (o_M ≤ vn),0)
def o7 (N : Nat) (aJ : Int) (aX : List Int) (o_M : Int) (o_N : Int) (nI : List (List Int)) (vm : List Int) (vi : Int) (rec : Int → Int → Option (LR (Int) (Bool × Int))) (yN : Int) : Option (LR (Int) (Bool × Int)) :=
 rec yN (IntKind.i64.wrap (vi + 1))
def gV (N : Nat) (aJ : Int) (aX : List Int) (o_M : Int) (o_N : Int) (nI : List (List Int)) (vm : List Int) : Nat → Int → Int → Option (LR (Int) (Bool × Int))
 | 0,_,_ => none
 | m + 1,cX,vi =>
  if decide (vi < o_N) then
   (bS nI vi).bind fun dI =>
   (bS nI (IntKind.i64.wrap (o_N + vi))).bind fun x28 =>
   (aS 32 vm).bind fun q =>
   (mN N dI x28 vm).bind fun dL =>
   if dL.2 != 0 then
    some (.ret (false,dL.2))
   else
    if dL.1 then
     o7 N aJ aX o_M o_N nI vm vi (gV N aJ aX o_M o_N nI vm m) (IntKind.i64.wrap (cX + 1))
    else
     o7 N aJ aX o_M o_N nI vm vi (gV N aJ aX o_M o_N nI vm m) cX
  else
   some (.brk cX)
def tQ (N : Nat) (aJ : Int) (aX : List Int) (o_M : Int) (o_N : Int) (nI : List (List Int)) (vm : List Int) : Option (Bool × Int) :=
 (gV N aJ aX o_M o_N nI vm N 0 0).bind fun q => match q with
  | .ret v => some v
  | .brk p2 =>
   wE N aJ aX o_M o_N p2
def vT (N : Nat) (vn : Int) : Option (Int × Int) :=
 some (vn,0)
def jQ (N : Nat) (b : List Int) : Nat → Int → Int → Option Int
 | 0,_,_ => none
 | m + 1,cX,x25 =>
  if decide (x25 < (b.length : Int)) then
   (bS b x25).bind fun dL =>
   (shl .u32 (IntKind.u32.wrap dL) (IntKind.i64.wrap (8 * x25))).bind fun x36 =>
   (jQ N b m) (bits .or .u32 cX x36) (IntKind.i64.wrap (x25 + 1))
  else
   some cX
def jF (N : Nat) (b : List Int) (bN : Bool) : Option (Int × Int) :=
 if bN then
  some (0,82)
 else
  (jQ N b N 0 0).bind fun p3 =>
  vT N p3
def rT (N : Nat) (b : List Int) : Option (Int × Int) :=
 if decide (4 < (b.length : Int)) then
  jF N b true
 else
  if decide (0 < (b.length : Int)) then
   (bS b (IntKind.i64.wrap ((b.length : Int) - 1))).bind fun x18 =>
   jF N b (x18 == 0)
  else
   jF N b false
def pE (N : Nat) (eF : List Int) (now : Int) : Option Int :=
 (rT N eF).bind fun x9 =>
 if x9.2 != 0 then
  some x9.2
 else
  if decide (now < (IntKind.i64.wrap x9.1)) then
   some 85
  else
   some 0
def v6 (N : Nat) (aJ : Int) (aX : List Int) (o_M : Int) (o_N : Int) (vs : List (List Int)) (aO : List Int) (aT : Int) (bG : Int) : Option ((List (List Int)) × Int) :=
 if aJ == 1 then
  (lQ N [aX]).bind fun x25 =>
  (k5 N vs x25).bind fun x26 =>
  some (x26.1,x26.2)
 else
  if aJ == 2 then
   (bS vs (IntKind.i64.wrap ((vs.length : Int) - 1))).bind fun x35 =>
   (k5 N vs x35).bind fun x37 =>
   some (x37.1,x37.2)
  else
   if aJ == 3 then
    (sub vs 0 (IntKind.i64.wrap ((vs.length : Int) - 1))).bind fun x45 =>
    some (x45,0)
   else
    if aJ == 4 then
     (sub vs 0 (IntKind.i64.wrap ((vs.length : Int) - 2))).bind fun x53 =>
     (bS vs (IntKind.i64.wrap ((vs.length : Int) - 1))).bind fun x57 =>
     (bS vs (IntKind.i64.wrap ((vs.length : Int) - 2))).bind fun x62 =>
     (eZ 24 x53 [x57,x62]).bind fun x65 =>
     some (x65,0)
    else
     if aJ == 5 then
      (sub vs 0 (IntKind.i64.wrap ((vs.length : Int) - 2))).bind fun x73 =>
      (bS vs (IntKind.i64.wrap ((vs.length : Int) - 2))).bind fun x77 =>
      (bS vs (IntKind.i64.wrap ((vs.length : Int) - 1))).bind fun x82 =>
      (tC N x77 x82).bind fun x84 =>
      (kS N x84).bind fun x85 =>
      (eZ 24 x73 [x85]).bind fun x87 =>
      some (x87,0)
     else
      if aJ == 6 then
       (sub vs 0 (IntKind.i64.wrap ((vs.length : Int) - 1))).bind fun x95 =>
       (bS vs (IntKind.i64.wrap ((vs.length : Int) - 1))).bind fun x99 =>
       (lR N x99).bind fun aNG =>
       (kS N (!aNG)).bind fun aDe =>
       (eZ 24 x95 [aDe]).bind fun aKU =>
       some (aKU,0)
      else
       if aJ == 7 then
        (bS vs (IntKind.i64.wrap ((vs.length : Int) - 1))).bind fun aGM =>
        (lR N aGM).bind fun aCi =>
        if !aCi then
         some ([],84)
        else
         (sub vs 0 (IntKind.i64.wrap ((vs.length : Int) - 1))).bind fun yH =>
         some (yH,0)
       else
        if aJ == 8 then
         (bS vs (IntKind.i64.wrap ((vs.length : Int) - 1))).bind fun aEC =>
         (sE N aEC).bind fun aCb =>
         (aS 32 aCb).bind fun q =>
         (sub vs 0 (IntKind.i64.wrap ((vs.length : Int) - 1))).bind fun aNS =>
         (eZ 24 aNS [aCb]).bind fun aLj =>
         some (aLj,0)
        else
         if aJ == 9 then
          (bS vs (IntKind.i64.wrap ((vs.length : Int) - 1))).bind fun aNh =>
          (qC N (IntKind.u32.wrap (aNh.length : Int))).bind fun aNp =>
          (k5 N vs aNp).bind fun aB8 =>
          some (aB8.1,aB8.2)
         else
          if aJ == 10 then
           (bS vs (IntKind.i64.wrap ((vs.length : Int) - 2))).bind fun aNC =>
           (bS vs (IntKind.i64.wrap ((vs.length : Int) - 1))).bind fun aNv =>
           (aS 32 aO).bind fun q_1 =>
           (mN N aNC aNv aO).bind fun aIL =>
           (sub vs 0 (IntKind.i64.wrap ((vs.length : Int) - 2))).bind fun aM2 =>
           (kS N aIL.1).bind fun aLi =>
           (eZ 24 aM2 [aLi]).bind fun aKG =>
           some (aKG,aIL.2)
          else
           if aJ == 11 then
            (sub vs (IntKind.i64.wrap ((vs.length : Int) - (IntKind.i64.wrap (2 * o_N)))) (vs.length : Int)).bind fun aM4 =>
            (aS 32 aO).bind fun q_2 =>
            (tQ N aJ aX o_M o_N aM4 aO).bind fun aIR =>
            (sub vs 0 (IntKind.i64.wrap ((vs.length : Int) - (IntKind.i64.wrap (2 * o_N))))).bind fun aM8 =>
            (kS N aIR.1).bind fun aKf =>
            (eZ 24 aM8 [aKf]).bind fun aLg =>
            some (aLg,aIR.2)
           else
            if aJ == 12 then
             (bS vs (IntKind.i64.wrap ((vs.length : Int) - 1))).bind fun aMX =>
             (pE N aMX aT).bind fun aNR =>
             some (vs,aNR)
            else
             if aJ == 13 then
              (bS vs (IntKind.i64.wrap ((vs.length : Int) - 1))).bind fun aNl =>
              (pE N aNl bG).bind fun aNf =>
              some (vs,aNf)
             else
              some ([],84)
def zX (N : Nat) (vs : List (List Int)) (cost : Int) : Option ((List (List Int)) × Int × Int) :=
 some (vs,cost,0)
def e9 (N : Nat) (aO : List Int) (aT : Int) (bG : Int) (bE : (List aM) × Int) (x35 : Int) (rec : (List (List Int)) → Int → Int → (List aR) → Option (LR ((List (List Int)) × Int) ((List (List Int)) × Int × Int))) (aEU : List (List Int)) (aAU : Int) (dV : List aR) : Option (LR ((List (List Int)) × Int) ((List (List Int)) × Int × Int)) :=
 rec aEU aAU (IntKind.i64.wrap (x35 + 1)) dV
def pN (N : Nat) (aO : List Int) (aT : Int) (bG : Int) (bE : (List aM) × Int) (x35 : Int) (l1 : List aR) (fA : Bool) (jB : Int) (rec : (List (List Int)) → Int → Int → (List aR) → Option (LR ((List (List Int)) × Int) ((List (List Int)) × Int × Int))) (aED : List (List Int)) (c2 : Bool) : Option (LR ((List (List Int)) × Int) ((List (List Int)) × Int × Int)) :=
 (eZ 2 l1 [(aR.mk fA c2)]).bind fun x91 =>
 e9 N aO aT bG bE x35 rec aED jB x91
def pL (N : Nat) (aO : List Int) (aT : Int) (bG : Int) (bE : (List aM) × Int) (f9 : List (List Int)) (x35 : Int) (l1 : List aR) (x37 : aM) (fA : Bool) (rec : (List (List Int)) → Int → Int → (List aR) → Option (LR ((List (List Int)) × Int) ((List (List Int)) × Int × Int))) (jB : Int) : Option (LR ((List (List Int)) × Int) ((List (List Int)) × Int × Int)) :=
 if x37.Code == 14 then
  if fA then
   (bS f9 (IntKind.i64.wrap ((f9.length : Int) - 1))).bind fun x79 =>
   (lR N x79).bind fun x81 =>
   (sub f9 0 (IntKind.i64.wrap ((f9.length : Int) - 1))).bind fun x87 =>
   pN N aO aT bG bE x35 l1 fA jB rec x87 x81
  else
   pN N aO aT bG bE x35 l1 fA jB rec f9 false
 else
  if x37.Code == 15 then
   (bS l1 (IntKind.i64.wrap ((l1.length : Int) - 1))).bind fun yG =>
   e9 N aO aT bG bE x35 rec f9 jB (l1.set (Int.toNat (IntKind.i64.wrap ((l1.length : Int) - 1))) (aR.mk yG.reached (!yG.done)))
  else
   if x37.Code == 16 then
    (sub l1 0 (IntKind.i64.wrap ((l1.length : Int) - 1))).bind fun yH =>
    e9 N aO aT bG bE x35 rec f9 jB yH
   else
    if fA then
     (v6 N x37.Code x37.Data x37.M x37.N f9 aO aT bG).bind fun aGn =>
     if aGn.2 != 0 then
      some (.ret ([],0,aGn.2))
     else
      e9 N aO aT bG bE x35 rec aGn.1 jB l1
    else
     e9 N aO aT bG bE x35 rec f9 jB l1
def o8 (N : Nat) (aO : List Int) (aT : Int) (bG : Int) (bE : (List aM) × Int) (f9 : List (List Int)) (iL : Int) (x35 : Int) (l1 : List aR) (x37 : aM) (rec : (List (List Int)) → Int → Int → (List aR) → Option (LR ((List (List Int)) × Int) ((List (List Int)) × Int × Int))) (fA : Bool) : Option (LR ((List (List Int)) × Int) ((List (List Int)) × Int × Int)) :=
 if fA then
  (xK N x37.Code x37.Data x37.M x37.N).bind fun x59 =>
  if decide (500 < (IntKind.i64.wrap (iL + x59))) then
   some (.ret ([],0,83))
  else
   (tS N x37.Code x37.Data x37.M x37.N).bind fun x66 =>
   if decide ((f9.length : Int) < x66) then
    some (.ret ([],0,81))
   else
    pL N aO aT bG bE f9 x35 l1 x37 fA rec (IntKind.i64.wrap (iL + x59))
 else
  pL N aO aT bG bE f9 x35 l1 x37 fA rec iL
def mG (N : Nat) (aO : List Int) (aT : Int) (bG : Int) (bE : (List aM) × Int) (f9 : List (List Int)) (iL : Int) (x35 : Int) (l1 : List aR) (x37 : aM) (x40 : Bool) (rec : (List (List Int)) → Int → Int → (List aR) → Option (LR ((List (List Int)) × Int) ((List (List Int)) × Int × Int))) (x48 : Bool) : Option (LR ((List (List Int)) × Int) ((List (List Int)) × Int × Int)) :=
 if x48 then
  (bS l1 (IntKind.i64.wrap ((l1.length : Int) - 1))).bind fun x53 =>
  o8 N aO aT bG bE f9 iL x35 l1 x37 rec x53.reached
 else
  o8 N aO aT bG bE f9 iL x35 l1 x37 rec x40
def cR (N : Nat) (aO : List Int) (aT : Int) (bG : Int) (bE : (List aM) × Int) : Nat → (List (List Int)) → Int → Int → (List aR) → Option (LR ((List (List Int)) × Int) ((List (List Int)) × Int × Int))
 | 0,_,_,_,_ => none
 | m + 1,f9,iL,x35,l1 =>
  if decide (x35 < (bE.1.length : Int)) then
   (bS bE.1 x35).bind fun x37 =>
   (r3 N l1).bind fun x40 =>
   if x37.Code == 15 then
    mG N aO aT bG bE f9 iL x35 l1 x37 x40 (cR N aO aT bG bE m) true
   else
    mG N aO aT bG bE f9 iL x35 l1 x37 x40 (cR N aO aT bG bE m) (x37.Code == 16)
  else
   some (.brk (f9,iL))
def uN (N : Nat) (b : List Int) (stack : List (List Int)) (aO : List Int) (aT : Int) (bG : Int) : Option ((List (List Int)) × Int × Int) :=
 (tU N b).bind fun bE =>
 if bE.2 != 0 then
  some ([],0,bE.2)
 else
  (rI N bE.1).bind fun x27 =>
  if !x27 then
   some ([],0,86)
  else
   (vS N stack).bind fun lA =>
   if lA then
    some ([],0,4)
   else
    (sC N stack).bind fun pK =>
    (cR N aO aT bG bE N pK 0 0 []).bind fun q => match q with
     | .ret v => some v
     | .brk p2 =>
      zX N p2.1 p2.2
def sD (N : Nat) : Option Bool :=
 some true
def gG (N : Nat) (va : List (List Int)) (b : List (List Int)) : Nat → Int → Option (LR (Unit) (Bool))
 | 0,_ => none
 | m + 1,cD =>
  if decide (cD < (va.length : Int)) then
   (bS va cD).bind fun x18 =>
   (bS b cD).bind fun bN =>
   (tC N x18 bN).bind fun fO =>
   if !fO then
    some (.ret false)
   else
    (gG N va b m) (IntKind.i64.wrap (cD + 1))
  else
   some (.brk ())
def nL (N : Nat) (va : List (List Int)) (b : List (List Int)) : Option Bool :=
 if (va.length : Int) != (b.length : Int) then
  some false
 else
  (gG N va b N 0).bind fun q => match q with
   | .ret v => some v
   | .brk p2 =>
    sD N
def kM (N : Nat) (b : List Int) (sX : List (List Int)) (dK : List Int) (eH : Int) (kR : Int) : Option Int :=
 (p9 N b sX dK eH kR).bind fun bC =>
 if bC.2.2 != 0 then
  some bC.2.2
 else
  if (bC.1.length : Int) != 1 then
   some 81
  else
   (bS bC.1 0).bind fun x28 =>
   (iH N x28).bind fun lA =>
   if !lA then
    some 84
   else
    some 0
def nH (N : Nat) (b : List Int) (sX : List (List Int)) (aO : List Int) (aT : Int) (bG : Int) : Option Int :=
 (uN N b sX aO aT bG).bind fun bC =>
 if bC.2.2 != 0 then
  some bC.2.2
 else
  if (bC.1.length : Int) != 1 then
   some 81
  else
   (bS bC.1 0).bind fun x28 =>
   (lR N x28).bind fun lA =>
   if !lA then
    some 84
   else
    some 0
def iB (N : Nat) (x6 : Bool) : Option Bool :=
 some x6
def fI (N : Nat) (b : List Int) (stack : List (List Int)) (aO : List Int) (aT : Int) (bG : Int) (bN : Bool) : Option Bool :=
 if bN then
  some true
 else
  (p9 N b stack aO aT bG).bind fun x27 =>
  (uN N b stack aO aT bG).bind fun x35 =>
  if x27.2.2 == x35.2.2 then
   if x27.2.1 == x35.2.1 then
    (nL N x27.1 x35.1).bind fun x50 =>
    if x50 then
     (kM N b stack aO aT bG).bind fun x56 =>
     (nH N b stack aO aT bG).bind fun x60 =>
     iB N (x56 == x60)
    else
     iB N false
   else
    iB N false
  else
   iB N false
def mB (N : Nat) (b : List Int) (stack : List (List Int)) (aO : List Int) (aT : Int) (bG : Int) : Option Bool :=
 (yY N).bind fun cD =>
 if !cD then
  some false
 else
  if decide (700 < (b.length : Int)) then
   fI N b stack aO aT bG true
  else
   (vY N stack 70 600).bind fun bE =>
   fI N b stack aO aT bG (!bE)
end Go.Proofs.YtnllpckhipmpgaaGreatDoor
namespace Go.Vm
open Go Go.ChangeShapes Go.WideShapes Go.ChangeAt Go.RowKit
section
variable {P : Program} {t e : TypeId}
theorem aDE {α : Type} {w : World} {E : α → V} : ∀ (l : List α) (vs : List Value),l.length = vs.length → (∀ (i : Nat) (x : α) (v : Value),l[i]? = some x → vs[i]? = some v → VR sK [] w (E x) v) → VCells sK [] w (l.map E) vs
 | [],[],_,_ => qA
 | [],_ :: _,h,_ => by cases h
 | _ :: _,[],h,_ => by cases h
 | x :: l,v :: vs,h,k => kU (k 0 x v rfl rfl) (aDE l vs (by simpa using h) fun i x' v' h1 h2 => k (i + 1) x' v' (by simpa using h1) (by simpa using h2))
theorem aHM {n : Nat} {k : IntKind} (ht : P.underlying t = some (.array n e)) (he : P.underlying e = some (.int k)) (h1 : P.cellsOf e = 1) (hn : P.cellsOf t = n) :
  aAB P t (fun x : {l : List Int // l.length = n} => ∀ y ∈ x.1,(Lit.int k y).wf = true) (fun x => x.1.map (eI k)) := by
 intro H enc w spare held fuel cs x h
 obtain ⟨xs,m,_,_,hl,hxs,hf⟩ := DataW.trod_array ht h
 rw [hn] at hl
 have each : ∀ i,i < n → ∃ a : Int,(Lit.int k a).wf = true ∧ ∀ v,cs[i]? = some v → VR sK [] w (eI k a) v := by
  intro i hi
  have h2 := hf i hi
  rw [h1,Nat.mul_one,List.getElem?_eq_getElem (by omega)] at h2
  obtain ⟨a,hw,hc⟩ := xP he h2
  refine ⟨a,hw,fun v hv => ?_⟩
  have e2 : (cs.drop i).take 1 = [v] := by
   obtain ⟨hic,rfl⟩ := List.getElem?_eq_some_iff.1 hv
   rw [List.drop_eq_getElem_cons hic]; rfl
  rw [e2] at hc
  exact aC4 hc
 obtain ⟨l,hll,hr⟩ := aAL n each
 refine ⟨⟨l,hll⟩,fun y hy => ?_,aDE l cs (by omega) fun i x v h1 h2 => (hr i x h1).2 v h2⟩
 obtain ⟨i,hi,rfl⟩ := List.mem_iff_getElem.1 hy
 exact (hr i _ (List.getElem?_eq_getElem hi)).1
theorem aJD {n : Nat} {k : IntKind} (ht : P.underlying t = some (.array n e)) (he : P.underlying e = some (.int k)) (h1 : P.cellsOf e = 1) (hn : P.cellsOf t = n) :
  aAB P t (fun x : List Int => x.length = n ∧ ∀ y ∈ x,(Lit.int k y).wf = true) (fun x => x.map (eI k)) := by
 intro H enc w spare held fuel cs x h
 obtain ⟨a,hq,hc⟩ := aHM ht he h1 hn h
 exact ⟨a.1,⟨a.2,hq⟩,hc⟩
theorem aEe {w : World} : ∀ {A B : List V} {us bs : List Value},VCells sK [] w A us → VCells sK [] w B bs → VCells sK [] w (A ++ B) (us ++ bs)
 | [],B,us,bs,h,k => by
  unfold VCells at h
  subst h
  exact k
 | a :: A,B,us,bs,h,k => by
  unfold VCells at h
  obtain ⟨v,rest,rfl,h1,h2⟩ := h
  exact kU h1 (aEe h2 k)
theorem aCs {w : World} {A B : List V} {cs : List Value} {o n : Nat} (h : VCells sK [] w A ((cs.drop o).take n)) (k : VCells sK [] w B (cs.drop (o + n))) : VCells sK [] w (A ++ B) (cs.drop o) := by
 have e : cs.drop o = (cs.drop o).take n ++ cs.drop (o + n) := by rw [← List.drop_drop,List.take_append_drop]
 rw [e]
 exact aEe h k
theorem aIN {w : World} {cs : List Value} {n : Nat} (h : cs.length = n) : VCells sK [] w [] (cs.drop n) := by
 rw [List.drop_eq_nil_of_le (by omega)]; exact qA
end
end Go.Vm
namespace Go.Proofs.YtnllpckhipmpgaaGreatDoor
open Go Go.Vm
open Go.ChangeShapes Go.WideShapes Go.ChangeAt Go.RowKit
structure aAr where
 Message : List Int
 Height : Int
 Age : Int
abbrev rU (x : aAr) : List V := (bL (eI .u8) x.Message [(eI .i64 x.Height),(eI .i64 x.Age)])
@[simp] theorem aMU {f : Nat → Nat} (l : List aAr) : V.rns f (l.flatMap rU) = l.flatMap rU := i8 (fun _ => rfl) l
@[simp] theorem aMT {f : Nat → Nat} (x : aAr) : V.rns f (rU x) = rU x := rfl
def aJa (x : aAr) : Prop := (x.Message.length = 32 ∧ ∀ z0 ∈ x.Message,(Lit.int .u8 z0).wf = true) ∧ ((Lit.int .i64 x.Height).wf = true) ∧ ((Lit.int .i64 x.Age).wf = true)
set_option maxRecDepth 100000 in
theorem aGa : aAB Tryz.prog 27 aJa rU := by
 intro H enc w spare held fuel cs x h
 obtain ⟨xs,n,_,_,hl,hlen,hf⟩ := DataW.trod_struct Tryz.underlying27 h
 rw [show Tryz.prog.cellsOf 27 = 34 by kernel_rfl] at hl
 match xs,hlen,hf with
 | [y0,y1,y2],_,hf =>
  have h0 : DataW.trod enc Tryz.prog w 0 spare held n 25 ((cs.drop 0).take (Tryz.prog.cellsOf 25)) = some y0 := hf 0 _ rfl
  obtain ⟨a0,q0,c0⟩ := (aJD Tryz.underlying25 Tryz.underlying5 (by kernel_rfl) (by kernel_rfl)) h0
  rw [show Tryz.prog.cellsOf 25 = 32 by kernel_rfl] at c0
  have h1 : DataW.trod enc Tryz.prog w 0 spare held n 3 ((cs.drop 32).take (Tryz.prog.cellsOf 3)) = some y1 := hf 1 _ rfl
  obtain ⟨a1,q1,c1⟩ := (xP Tryz.underlying3) h1
  rw [show Tryz.prog.cellsOf 3 = 1 by kernel_rfl] at c1
  have h2 : DataW.trod enc Tryz.prog w 0 spare held n 3 ((cs.drop 33).take (Tryz.prog.cellsOf 3)) = some y2 := hf 2 _ rfl
  obtain ⟨a2,q2,c2⟩ := (xP Tryz.underlying3) h2
  rw [show Tryz.prog.cellsOf 3 = 1 by kernel_rfl] at c2
  refine ⟨⟨a0,a1,a2⟩,⟨q0,q1,q2⟩, ?_⟩
  have c := (aCs (o := 0) c0 (aCs (o := 32) c1 (aCs (o := 33) c2 (aIN hl))))
  simp only [rU,aHn q0.1]
  exact c
end Go.Proofs.YtnllpckhipmpgaaGreatDoor
namespace Go.Vm
open Go
def iN (l : List Nat) : List Int := l.map fun (x : Nat) => (x : Int)
theorem aEa (l : List Nat) : (iN l).length = l.length := by simp [iN]
theorem aJO {d : List Int} (h : Byt d) : iN (d.map Int.toNat) = d ∧ ∀ x ∈ d.map Int.toNat,x < 256 := by
 constructor
 ·simp only [iN,List.map_map]
  conv => rhs; rw [← List.map_id d]
  refine List.map_congr_left fun x hx => ?_
  have := h x hx
  simp only [Function.comp,id]; omega
 ·intro x hx
  simp only [List.mem_map] at hx
  obtain ⟨y,hy,rfl⟩ := hx
  have := h y hy
  omega
theorem aIk {d : List Int} (h : Byt d) : ∃ l : List Nat,d = iN l ∧ ∀ x ∈ l,x < 256 := ⟨_,(aJO h).1.symm,(aJO h).2⟩
theorem i1 {j : Nat} (hj : j ≤ 100000) : IntKind.i64.wrap ((j : Int) + 1) = ((j + 1 : Nat) : Int) := by rw [b4 (by omega) (by omega)]; simp
theorem dT {j n : Nat} (h : j < n) : decide ((j : Int) < (n : Int)) = true := by simpa using h
theorem dF {j n : Nat} (h : ¬ j < n) : decide ((j : Int) < (n : Int)) = false := by simp; omega
theorem kH : 100000000 ≤ lE := by decide
theorem uH {l m : List Int} (h : l.length + m.length ≤ 100000000) : eZ 1 l m = some (l ++ m) := by
 have := kH
 exact u6 (by omega)
theorem aFt {α : Type} {f : Nat → Int → List Int → Option (List Int)} {xs : List α} {g : α → List Int} {B : Nat} (hn : xs.length ≤ 100000)
  (hs : ∀ m j acc (hj : j < xs.length),acc.length + (g xs[j]).length ≤ B → f (m + 1) (j : Int) acc = f m ((j + 1 : Nat) : Int) (acc ++ g xs[j])) (he : ∀ m j acc,xs.length ≤ j → f (m + 1) (j : Int) acc = some acc) :
  ∀ (m j : Nat) (acc : List Int),xs.length - j < m → j ≤ xs.length → acc.length + ((xs.drop j).flatMap g).length ≤ B → f m (j : Int) acc = some (acc ++ (xs.drop j).flatMap g)
 | 0,j,acc,hm,_,_ => by omega
 | m + 1,j,acc,hm,hj,hB => by
  by_cases h : j < xs.length
  ·rw [List.drop_eq_getElem_cons h,List.flatMap_cons,List.length_append] at hB
   rw [hs m j acc h (by omega),aFt hn hs he m (j + 1) _ (by omega) (by omega) (by rw [List.length_append]; omega),List.drop_eq_getElem_cons h,List.flatMap_cons,List.append_assoc]
  ·rw [he m j acc (by omega),List.drop_eq_nil_of_le (by omega)]; simp
theorem aAh {α R : Type} {f : Nat → Int → Option (LR Unit R)} {xs : List α} {p : α → Bool} {r : R}
  (hs : ∀ m j (hj : j < xs.length),f (m + 1) (j : Int) = if p xs[j] = true then f m ((j + 1 : Nat) : Int) else some (.ret r)) (he : ∀ m j,xs.length ≤ j → f (m + 1) (j : Int) = some (.brk ())) :
  ∀ (m j : Nat),xs.length - j < m → j ≤ xs.length → f m (j : Int) = some (if (xs.drop j).all p = true then .brk () else .ret r)
 | 0,j,hm,_ => by omega
 | m + 1,j,hm,hj => by
  by_cases h : j < xs.length
  ·rw [hs m j h,aAh hs he m (j + 1) (by omega) (by omega),List.drop_eq_getElem_cons h,List.all_cons]
   cases p xs[j] <;> simp
  ·rw [he m j (by omega),List.drop_eq_nil_of_le (by omega)]; simp
end Go.Vm
set_option linter.unusedSectionVars false
namespace Go.Proofs.YtnllpckhipmpgaaGreatDoor
open Go Go.Vm
def w4 (a b c d : Nat) : List Int := [(a : Int),(b : Int),(c : Int),(d : Int)]
def vl (a b c d : Nat) : Nat := a + 18446744073709551616 * b + 340282366920938463463374607431768211456 * c + 6277101735386680763835789423207666416102355444464034512896 * d
def U (n : Nat) : List Int := w4 (n % 18446744073709551616) (n / 18446744073709551616 % 18446744073709551616) (n / 340282366920938463463374607431768211456 % 18446744073709551616) (n / 6277101735386680763835789423207666416102355444464034512896 % 18446744073709551616)
theorem aNT (n : Nat) : (U n).length = 4 := rfl
theorem aDB {a b c d : Nat} (ha : a < 18446744073709551616) (hb : b < 18446744073709551616) (hc : c < 18446744073709551616) (hd : d < 18446744073709551616) : w4 a b c d = U (vl a b c d) := by
 unfold U vl
 have h0 : (a + 18446744073709551616 * b + 340282366920938463463374607431768211456 * c + 6277101735386680763835789423207666416102355444464034512896 * d) % 18446744073709551616 = a := by omega
 have h1 : (a + 18446744073709551616 * b + 340282366920938463463374607431768211456 * c + 6277101735386680763835789423207666416102355444464034512896 * d) / 18446744073709551616 % 18446744073709551616 = b := by omega
 have h2 : (a + 18446744073709551616 * b + 340282366920938463463374607431768211456 * c + 6277101735386680763835789423207666416102355444464034512896 * d) / 340282366920938463463374607431768211456 % 18446744073709551616 = c := by omega
 have h3 : (a + 18446744073709551616 * b + 340282366920938463463374607431768211456 * c + 6277101735386680763835789423207666416102355444464034512896 * d) / 6277101735386680763835789423207666416102355444464034512896 % 18446744073709551616 = d := by omega
 rw [h0,h1,h2,h3]
theorem vH {n : Nat} (h : n < 115792089237316195423570985008687907853269984665640564039457584007913129639936) : ∃ a b c d,a < 18446744073709551616 ∧ b < 18446744073709551616 ∧ c < 18446744073709551616 ∧ d < 18446744073709551616 ∧ U n = w4 a b c d ∧ n = vl a b c d := by
 refine ⟨n % 18446744073709551616,n / 18446744073709551616 % 18446744073709551616,n / 340282366920938463463374607431768211456 % 18446744073709551616,n / 6277101735386680763835789423207666416102355444464034512896 % 18446744073709551616,by omega,by omega,by omega,by omega,rfl, ?_⟩
 unfold vl
 omega
theorem aCU {a b c d : Nat} (ha : a < 18446744073709551616) (hb : b < 18446744073709551616) (hc : c < 18446744073709551616) (hd : d < 18446744073709551616) : vl a b c d < 115792089237316195423570985008687907853269984665640564039457584007913129639936 := by unfold vl; omega
def Wd (l : List Int) : Prop := l.length = 4 ∧ ∀ x ∈ l,0 ≤ x ∧ x < 18446744073709551616
theorem Wd.ex {l : List Int} (h : Wd l) : ∃ n,n < 115792089237316195423570985008687907853269984665640564039457584007913129639936 ∧ l = U n := by
 obtain ⟨hl,hx⟩ := h
 match l,hl,hx with
 | [a,b,c,d],_,hx =>
  have ha := hx a (by simp)
  have hb := hx b (by simp)
  have hc := hx c (by simp)
  have hd := hx d (by simp)
  refine ⟨vl a.toNat b.toNat c.toNat d.toNat,aCU (by omega) (by omega) (by omega) (by omega), ?_⟩
  rw [← aDB (by omega) (by omega) (by omega) (by omega)]
  unfold w4
  rw [Int.toNat_of_nonneg ha.1,Int.toNat_of_nonneg hb.1,Int.toNat_of_nonneg hc.1,Int.toNat_of_nonneg hd.1]
theorem aOl {a b : Nat} (ha : a < 115792089237316195423570985008687907853269984665640564039457584007913129639936) (hb : b < 115792089237316195423570985008687907853269984665640564039457584007913129639936) (h : U a = U b) : a = b := by
 simp only [U,w4,List.cons.injEq,and_true] at h
 omega
theorem vW {a b : Nat} (ha : a < 115792089237316195423570985008687907853269984665640564039457584007913129639936) (hb : b < 115792089237316195423570985008687907853269984665640564039457584007913129639936) : (U a == U b) = decide (a = b) := by
 by_cases h : a = b
 ·subst h; simp
 ·rw [decide_eq_false h]
  apply beq_eq_false_iff_ne.2
  exact fun e => h (aOl ha hb e)
theorem tN : U 0 = [0,0,0,0] := rfl
theorem a40 (a b c d : Nat) : bB 4 (w4 a b c d) 0 = some (a : Int) := rfl
theorem a41 (a b c d : Nat) : bB 4 (w4 a b c d) 1 = some (b : Int) := rfl
theorem a42 (a b c d : Nat) : bB 4 (w4 a b c d) 2 = some (c : Int) := rfl
theorem a43 (a b c d : Nat) : bB 4 (w4 a b c d) 3 = some (d : Int) := rfl
theorem bA (n : Nat) : aS 4 (U n) = some (U n) := rfl
theorem q40 (a b c d : Int) : bB 4 [a,b,c,d] 0 = some a := rfl
theorem q41 (a b c d : Int) : bB 4 [a,b,c,d] 1 = some b := rfl
theorem q42 (a b c d : Int) : bB 4 [a,b,c,d] 2 = some c := rfl
theorem q43 (a b c d : Int) : bB 4 [a,b,c,d] 3 = some d := rfl
theorem t40 (a b c d x : Int) : [a,b,c,d].set (Int.toNat 0) x = [x,b,c,d] := rfl
theorem t41 (a b c d x : Int) : [a,b,c,d].set (Int.toNat 1) x = [a,x,c,d] := rfl
theorem t42 (a b c d x : Int) : [a,b,c,d].set (Int.toNat 2) x = [a,b,x,d] := rfl
theorem t43 (a b c d x : Int) : [a,b,c,d].set (Int.toNat 3) x = [a,b,c,x] := rfl
theorem r40 : List.replicate 4 (0 : Int) = [0,0,0,0] := rfl
theorem aNc (a b c d : Nat) : w4 a b c d = [(a : Int),(b : Int),(c : Int),(d : Int)] := rfl
theorem d04 : decide ((0 : Int) < 4) = true := rfl
theorem d14 : decide ((1 : Int) < 4) = true := rfl
theorem d24 : decide ((2 : Int) < 4) = true := rfl
theorem d34 : decide ((3 : Int) < 4) = true := rfl
theorem d44 : decide ((4 : Int) < 4) = false := rfl
theorem i01 : IntKind.i64.wrap (0 + 1) = 1 := by decide +kernel
theorem i12 : IntKind.i64.wrap (1 + 1) = 2 := by decide +kernel
theorem i23 : IntKind.i64.wrap (2 + 1) = 3 := by decide +kernel
theorem i34 : IntKind.i64.wrap (3 + 1) = 4 := by decide +kernel
theorem i32 : IntKind.i64.wrap (3 - 1) = 2 := by decide +kernel
theorem i21 : IntKind.i64.wrap (2 - 1) = 1 := by decide +kernel
theorem i10 : IntKind.i64.wrap (1 - 1) = 0 := by decide +kernel
theorem i0m : IntKind.i64.wrap (0 - 1) = -1 := by decide +kernel
theorem q4 {α : Type} (f : Nat → α) {N : Nat} (h : 70000 ≤ N) : ∃ m,f N = f (m + 1 + 1 + 1 + 1 + 1) := ⟨N - 5,by congr 1; omega⟩
theorem oO {x y c : Nat} (hx : x < 18446744073709551616) (hy : y < 18446744073709551616) (hc : c ≤ 1) : ∃ s k : Nat,oU (x : Int) (y : Int) (c : Int) = some ((s : Int),(k : Int)) ∧ x + y + c = s + 18446744073709551616 * k ∧ s < 18446744073709551616 ∧ k ≤ 1 := by
 refine ⟨(x + y + c) % 18446744073709551616,(x + y + c) / 18446744073709551616, ?_,by omega,by omega,by omega⟩
 unfold oU
 simp only [Int.toNat_natCast]
 rw [if_pos hc]
theorem sO {x y c : Nat} (hx : x < 18446744073709551616) (hy : y < 18446744073709551616) (hc : c ≤ 1) : ∃ s k : Nat,aBl (x : Int) (y : Int) (c : Int) = some ((s : Int),(k : Int)) ∧ x + 18446744073709551616 * k = y + c + s ∧ s < 18446744073709551616 ∧ k ≤ 1 := by
 refine ⟨(x + 18446744073709551616 - y - c) % 18446744073709551616,if x < y + c then 1 else 0, ?_, ?_,by omega, ?_⟩
 ·unfold aBl
  simp only [Int.toNat_natCast]
  rw [if_pos hc]
 ·split <;> omega
 ·split <;> omega
theorem aNB {N : Nat} (hN : 70000 ≤ N) {a0 a1 a2 a3 b0 b1 b2 b3 : Nat} (ha0 : a0 < 18446744073709551616) (ha1 : a1 < 18446744073709551616) (ha2 : a2 < 18446744073709551616) (ha3 : a3 < 18446744073709551616) (hb0 : b0 < 18446744073709551616) (hb1 : b1 < 18446744073709551616) (hb2 : b2 < 18446744073709551616) (hb3 : b3 < 18446744073709551616) :
  ∃ s0 s1 s2 s3 k : Nat,sA N (w4 a0 a1 a2 a3) (w4 b0 b1 b2 b3) = some (w4 s0 s1 s2 s3,((k : Int) != 0)) ∧ vl a0 a1 a2 a3 + vl b0 b1 b2 b3 = vl s0 s1 s2 s3 + 115792089237316195423570985008687907853269984665640564039457584007913129639936 * k ∧ s0 < 18446744073709551616 ∧ s1 < 18446744073709551616 ∧ s2 < 18446744073709551616 ∧ s3 < 18446744073709551616 ∧ k ≤ 1 := by
 obtain ⟨s0,k0,e0,f0,g0,l0⟩ := oO ha0 hb0 (Nat.zero_le 1)
 obtain ⟨s1,k1,e1,f1,g1,l1⟩ := oO ha1 hb1 l0
 obtain ⟨s2,k2,e2,f2,g2,l2⟩ := oO ha2 hb2 l1
 obtain ⟨s3,k3,e3,f3,g3,l3⟩ := oO ha3 hb3 l2
 refine ⟨s0,s1,s2,s3,k3, ?_,by unfold vl; omega,g0,g1,g2,g3,l3⟩
 obtain ⟨m,hm⟩ := q4 (fun q => iK N (w4 a0 a1 a2 a3) (w4 b0 b1 b2 b3) q 0 0 (List.replicate 4 0)) hN
 unfold sA
 rw [hm]
 have e0' : oU (a0 : Int) (b0 : Int) 0 = some ((s0 : Int),(k0 : Int)) := e0
 simp only [iK,cS,a40,a41,a42,a43,q40,q41,q42,q43,t40,t41,t42,t43,r40,i01,i12,i23,i34,d04,d14,d24,d34,d44,if_true,Bool.false_eq_true,if_false,Option.bind_some,e0',e1,e2,e3,tJ]
 rfl
theorem aLr {N : Nat} (hN : 70000 ≤ N) {a b : Nat} (ha : a < 115792089237316195423570985008687907853269984665640564039457584007913129639936) (hb : b < 115792089237316195423570985008687907853269984665640564039457584007913129639936) : sA N (U a) (U b) = some (U ((a + b) % 115792089237316195423570985008687907853269984665640564039457584007913129639936),decide (115792089237316195423570985008687907853269984665640564039457584007913129639936 ≤ a + b)) := by
 obtain ⟨a0,a1,a2,a3,x0,x1,x2,x3,ea,va⟩ := vH ha
 obtain ⟨b0,b1,b2,b3,y0,y1,y2,y3,eb,vb⟩ := vH hb
 obtain ⟨s0,s1,s2,s3,k,h1,h2,z0,z1,z2,z3,hk⟩ := aNB hN x0 x1 x2 x3 y0 y1 y2 y3
 have hv := aCU z0 z1 z2 z3
 rw [ea,eb,h1,aDB z0 z1 z2 z3,show (a + b) % 115792089237316195423570985008687907853269984665640564039457584007913129639936 = vl s0 s1 s2 s3 by omega]
 congr 2
 by_cases h : 115792089237316195423570985008687907853269984665640564039457584007913129639936 ≤ a + b
 ·rw [decide_eq_true h,show k = 1 by omega]; rfl
 ·rw [decide_eq_false h,show k = 0 by omega]; rfl
theorem aNL {N : Nat} (hN : 70000 ≤ N) {a0 a1 a2 a3 b0 b1 b2 b3 : Nat} (ha0 : a0 < 18446744073709551616) (ha1 : a1 < 18446744073709551616) (ha2 : a2 < 18446744073709551616) (ha3 : a3 < 18446744073709551616) (hb0 : b0 < 18446744073709551616) (hb1 : b1 < 18446744073709551616) (hb2 : b2 < 18446744073709551616) (hb3 : b3 < 18446744073709551616) :
  ∃ s0 s1 s2 s3 k : Nat,oG N (w4 a0 a1 a2 a3) (w4 b0 b1 b2 b3) = some (w4 s0 s1 s2 s3,((k : Int) != 0)) ∧ vl a0 a1 a2 a3 + 115792089237316195423570985008687907853269984665640564039457584007913129639936 * k = vl b0 b1 b2 b3 + vl s0 s1 s2 s3 ∧ s0 < 18446744073709551616 ∧ s1 < 18446744073709551616 ∧ s2 < 18446744073709551616 ∧ s3 < 18446744073709551616 ∧ k ≤ 1 := by
 obtain ⟨s0,k0,e0,f0,g0,l0⟩ := sO ha0 hb0 (Nat.zero_le 1)
 obtain ⟨s1,k1,e1,f1,g1,l1⟩ := sO ha1 hb1 l0
 obtain ⟨s2,k2,e2,f2,g2,l2⟩ := sO ha2 hb2 l1
 obtain ⟨s3,k3,e3,f3,g3,l3⟩ := sO ha3 hb3 l2
 refine ⟨s0,s1,s2,s3,k3, ?_,by unfold vl; omega,g0,g1,g2,g3,l3⟩
 obtain ⟨m,hm⟩ := q4 (fun q => iJ N (w4 a0 a1 a2 a3) (w4 b0 b1 b2 b3) q 0 0 (List.replicate 4 0)) hN
 unfold oG
 rw [hm]
 have e0' : aBl (a0 : Int) (b0 : Int) 0 = some ((s0 : Int),(k0 : Int)) := e0
 simp only [iJ,oB,a40,a41,a42,a43,q40,q41,q42,q43,t40,t41,t42,t43,r40,i01,i12,i23,i34,d04,d14,d24,d34,d44,if_true,Bool.false_eq_true,if_false,Option.bind_some,e0',e1,e2,e3,t3]
 rfl
theorem aCT {N : Nat} (hN : 70000 ≤ N) {a b : Nat} (ha : a < 115792089237316195423570985008687907853269984665640564039457584007913129639936) (hb : b < 115792089237316195423570985008687907853269984665640564039457584007913129639936) : oG N (U a) (U b) = some (U ((a + 115792089237316195423570985008687907853269984665640564039457584007913129639936 - b) % 115792089237316195423570985008687907853269984665640564039457584007913129639936),decide (a < b)) := by
 obtain ⟨a0,a1,a2,a3,x0,x1,x2,x3,ea,va⟩ := vH ha
 obtain ⟨b0,b1,b2,b3,y0,y1,y2,y3,eb,vb⟩ := vH hb
 obtain ⟨s0,s1,s2,s3,k,h1,h2,z0,z1,z2,z3,hk⟩ := aNL hN x0 x1 x2 x3 y0 y1 y2 y3
 have hv := aCU z0 z1 z2 z3
 rw [ea,eb,h1,aDB z0 z1 z2 z3,show (a + 115792089237316195423570985008687907853269984665640564039457584007913129639936 - b) % 115792089237316195423570985008687907853269984665640564039457584007913129639936 = vl s0 s1 s2 s3 by omega]
 congr 2
 by_cases h : a < b
 ·rw [decide_eq_true h,show k = 1 by omega]; rfl
 ·rw [decide_eq_false h,show k = 0 by omega]; rfl
theorem uE {N : Nat} (hN : 70000 ≤ N) {a b : Nat} (ha : a < 115792089237316195423570985008687907853269984665640564039457584007913129639936) (hb : b < 115792089237316195423570985008687907853269984665640564039457584007913129639936) : lK N (U a) (U b) = some (if a < b then -1 else if b < a then 1 else 0) := by
 obtain ⟨a0,a1,a2,a3,x0,x1,x2,x3,ea,va⟩ := vH ha
 obtain ⟨b0,b1,b2,b3,y0,y1,y2,y3,eb,vb⟩ := vH hb
 rw [ea,eb]
 obtain ⟨m,hm⟩ := q4 (fun q => kN N (w4 a0 a1 a2 a3) (w4 b0 b1 b2 b3) q 3) hN
 unfold lK
 rw [hm]
 unfold vl at va vb
 simp only [kN,a40,a41,a42,a43,i32,i21,i10,i0m,show decide ((0 : Int) ≤ 3) = true from rfl,show decide ((0 : Int) ≤ 2) = true from rfl,show decide ((0 : Int) ≤ 1) = true from rfl,show decide ((0 : Int) ≤ 0) = true from rfl,show decide ((0 : Int) ≤ -1) = false from rfl,if_true,Bool.false_eq_true,if_false,Option.bind_some,xM,decide_eq_true_eq,Int.ofNat_lt]
 by_cases c3 : a3 < b3
 ·rw [if_pos c3,if_pos (by omega)]; rfl
 ·rw [if_neg c3]
  by_cases d3 : b3 < a3
  ·rw [if_pos d3,if_neg (by omega),if_pos (by omega)]; rfl
  ·rw [if_neg d3]
   by_cases c2 : a2 < b2
   ·rw [if_pos c2,if_pos (by omega)]; rfl
   ·rw [if_neg c2]
    by_cases d2 : b2 < a2
    ·rw [if_pos d2,if_neg (by omega),if_pos (by omega)]; rfl
    ·rw [if_neg d2]
     by_cases c1 : a1 < b1
     ·rw [if_pos c1,if_pos (by omega)]; rfl
     ·rw [if_neg c1]
      by_cases d1 : b1 < a1
      ·rw [if_pos d1,if_neg (by omega),if_pos (by omega)]; rfl
      ·rw [if_neg d1]
       by_cases c0 : a0 < b0
       ·rw [if_pos c0,if_pos (by omega)]; rfl
       ·rw [if_neg c0]
        by_cases d0 : b0 < a0
        ·rw [if_pos d0,if_neg (by omega),if_pos (by omega)]; rfl
        ·rw [if_neg d0,if_neg (by omega),if_neg (by omega)]; rfl
theorem aDZ {x l : Nat} (hx : x < 18446744073709551616) (hl : l ≤ 1) : ∃ y s k : Nat,shl .u64 (x : Int) 1 = some (y : Int) ∧ shr .u64 (x : Int) 63 = some (k : Int) ∧ bits .or .u64 (y : Int) (l : Int) = (s : Int) ∧ 2 * x + l = s + 18446744073709551616 * k ∧ s < 18446744073709551616 ∧ k ≤ 1 := by
 have h1 : x * 2 ^ 1 % 18446744073709551616 = (x % 9223372036854775808) * 2 ^ 1 := by omega
 refine ⟨x * 2 ^ 1 % 18446744073709551616,(x % 9223372036854775808) * 2 ^ 1 + l,x / 9223372036854775808,aA2 rfl x 1,uP x 63 hx, ?_,by omega,by omega,by omega⟩
 rw [t0 rfl _ _ (show x * 2 ^ 1 % 18446744073709551616 < 2 ^ 64 by omega) (show l < 2 ^ 64 by omega),h1]
 congr 1
 rw [Nat.mul_comm,← Nat.two_pow_add_eq_or_of_lt (show l < 2 ^ 1 by omega)]
theorem aLB {N : Nat} (hN : 70000 ≤ N) {a l : Nat} (ha : a < 115792089237316195423570985008687907853269984665640564039457584007913129639936) (hl : l ≤ 1) : ∃ k : Nat,oM N (U a) (l : Int) = some (U ((2 * a + l) % 115792089237316195423570985008687907853269984665640564039457584007913129639936),(k : Int)) ∧ k = (2 * a + l) / 115792089237316195423570985008687907853269984665640564039457584007913129639936 := by
 obtain ⟨a0,a1,a2,a3,x0,x1,x2,x3,ea,va⟩ := vH ha
 obtain ⟨y0,s0,k0,e0,f0,g0,h0,j0,l0⟩ := aDZ x0 hl
 obtain ⟨y1,s1,k1,e1,f1,g1,h1,j1,l1⟩ := aDZ x1 l0
 obtain ⟨y2,s2,k2,e2,f2,g2,h2,j2,l2⟩ := aDZ x2 l1
 obtain ⟨y3,s3,k3,e3,f3,g3,h3,j3,l3⟩ := aDZ x3 l2
 unfold vl at va
 have hv := aCU j0 j1 j2 j3
 have hvv : 2 * a + l = vl s0 s1 s2 s3 + 115792089237316195423570985008687907853269984665640564039457584007913129639936 * k3 := by unfold vl; omega
 refine ⟨k3, ?_,by omega⟩
 rw [ea,show (2 * a + l) % 115792089237316195423570985008687907853269984665640564039457584007913129639936 = vl s0 s1 s2 s3 by omega,← aDB j0 j1 j2 j3]
 obtain ⟨m,hm⟩ := q4 (fun q => kK N q (l : Int) 0 (w4 a0 a1 a2 a3)) hN
 unfold oM
 rw [hm]
 simp only [kK,aNc,q40,q41,q42,q43,t40,t41,t42,t43,i01,i12,i23,i34,d04,d14,d24,d34,d44,if_true,Bool.false_eq_true,if_false,Option.bind_some,e0,f0,g0,e1,f1,g1,e2,f2,g2,e3,f3,g3,s7]
 rfl
end Go.Proofs.YtnllpckhipmpgaaGreatDoor
