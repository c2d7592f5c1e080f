/- Texts of ours, joined: PlainK2, PlainK3, PlainK4, PlainK5, PlainK6, PlainK7, PlainK8, PlainK9, PlainK10, PlainK11, PlainK12, TyF. -/
import Derived.Test.YtnllpckhipmpgaaGreatDoorQScriptRuns4
set_option linter.unusedSimpArgs false
set_option linter.unusedVariables false
set_option linter.unusedSectionVars false
namespace Go.Proofs.YtnllpckhipmpgaaGreatDoor
open Go Go.Vm
theorem aHQ (N : Nat) {d : List Int} (hl : d.length ≤ 255) : kQ N 1 d 0 0 = some 0 := by
 have h255 : decide ((255 : Int) < (d.length : Int)) = false := decide_eq_false (by omega)
 unfold kQ kE kC fE fC
 rw [h255]
 cases decide ((0 : Int) < (d.length : Int)) <;> rfl
theorem aHR (N : Nat) {x : Int} (h : 1 ≤ x ∧ x ≤ 17) (h11 : x ≠ 11) : kQ N x [] 0 0 = some 0 := by
 unfold kQ kE kC fE fC
 rw [decide_eq_false (show ¬ x < 1 by omega),decide_eq_false (show ¬ 17 < x by omega),show (x == 11) = false by simpa using h11]
 rfl
theorem aGX (N : Nat) (m n : Int) : kQ N 11 [] m n = some (if rW m n = true then 0 else 5) := by
 have hJ : fE N 11 [] m n false = some (if rW m n = true then 0 else 5) := by
  unfold fE fC rW
  by_cases h1 : n < 1
  ·rw [decide_eq_true h1,decide_eq_false (show ¬ 1 ≤ n by omega)]; rfl
  ·rw [decide_eq_false h1,decide_eq_true (show 1 ≤ n by omega)]
   by_cases h2 : 15 < n
   ·rw [decide_eq_true h2,decide_eq_false (show ¬ n ≤ 15 by omega)]; rfl
   ·rw [decide_eq_false h2,decide_eq_true (show n ≤ 15 by omega)]
    by_cases h3 : m < 1
    ·rw [decide_eq_true h3,decide_eq_false (show ¬ 1 ≤ m by omega)]; rfl
    ·rw [decide_eq_false h3,decide_eq_true (show 1 ≤ m by omega)]
     by_cases h4 : n < m
     ·rw [decide_eq_true h4,decide_eq_false (show ¬ m ≤ n by omega)]; rfl
     ·rw [decide_eq_false h4,decide_eq_true (show m ≤ n by omega)]; rfl
 unfold kQ kE kC
 rw [show ((11 : Int) != 11) = false from rfl,hJ]
 cases m != 0 <;> cases n != 0 <;> rfl
theorem aMl {N : Nat} (hN : 70000 ≤ N) {x : Int} {r : List Int} (hb : Byt (x :: r)) (hl : r.length ≤ 100000) :
  ∃ y,xO N (x :: r) = some y ∧ y.2.2.2.2.2 = (dJ x r).2.2 ∧ ((dJ x r).2.2 = 0 → y = ((dJ x r).1.Code,(dJ x r).1.Data,(dJ x r).1.M,(dJ x r).1.N,(dJ x r).2.1,0)) := by
 have hx := hb x (by simp)
 have wx : IntKind.i64.wrap x = x := b4 (by omega) (by omega)
 unfold xO dJ
 rw [aBw,Option.bind_some,wx]
 by_cases h0 : x < 1 ∨ 17 < x
 ·rw [if_pos h0]
  refine ⟨(0,[],0,0,[],80), ?_,rfl,fun h => by cases h⟩
  rcases h0 with h | h
  ·rw [decide_eq_true h]; rfl
  ·rw [decide_eq_false (show ¬ x < 1 by omega),decide_eq_true h]; rfl
 ·rw [if_neg h0,decide_eq_false (show ¬ x < 1 by omega),decide_eq_false (show ¬ 17 < x by omega)]
  rw [if_neg (show ¬ (false = true) by decide)]
  unfold rG
  rw [if_neg (show ¬ (false = true) by decide),aNK,Option.bind_some,wx]
  by_cases h1 : x = 1
  ·subst h1
   rw [if_pos (show ((1 : Int) == 1) = true from rfl),if_pos rfl]
   match r,hb,hl with
   | [],_,_ => exact ⟨(0,[],0,0,[],1),rfl,rfl,fun h => by cases h⟩
   | n :: r',hb,hl =>
    have hn := hb n (by simp)
    have wn : IntKind.i64.wrap n = n := b4 (by omega) (by omega)
    have hl' : r'.length ≤ 100000 := by simp at hl; omega
    rw [if_neg (show ¬ ((((n :: r').length : Nat) : Int) == 0) = true by simp; omega),aBw,Option.bind_some,wn,show (((n :: r').length : Nat) : Int) - 1 = (r'.length : Int) by simp,b4 (a := (r'.length : Int)) (by omega) (by omega)]
    dsimp only
    unfold sF
    by_cases h2 : (r'.length : Int) < n
    ·rw [decide_eq_true h2,if_pos rfl,if_pos h2]
     exact ⟨(0,[],0,0,[],1),rfl,rfl,fun h => by cases h⟩
    ·rw [decide_eq_false h2,if_neg (show ¬ (false = true) by decide),if_neg h2,aBw,Option.bind_some,wn,b4 (a := 1 + n) (by omega) (by omega)]
     have e1 : sub (n :: r') 1 (1 + n) = some (r'.take n.toNat) := by
      unfold sub
      rw [if_pos ⟨by omega,by omega,by rw [List.length_cons]; omega⟩,show (1 + n).toNat = n.toNat + 1 by omega]
      rfl
     have e2 : sub (n :: r') (1 + n) (((n :: r').length : Nat) : Int) = some (r'.drop n.toNat) := by
      unfold sub
      rw [if_pos ⟨by omega,by rw [List.length_cons]; omega,by omega⟩,Int.toNat_natCast,List.take_of_length_le (Nat.le_refl _),show (1 + n).toNat = n.toNat + 1 by omega]
      rfl
     have hlt : (r'.take n.toNat).length ≤ 255 := by rw [List.length_take]; omega
     rw [e1,Option.bind_some,aGe hN _ (by simp) (by simp; omega),Option.bind_some,e2,Option.bind_some]
     unfold kZ
     rw [show IntKind.i64.wrap 1 = 1 by decide +kernel,show [r'.take n.toNat].flatten = r'.take n.toNat by simp,aHQ N hlt,Option.bind_some]
     exact ⟨_,rfl,rfl,fun _ => rfl⟩
  ·rw [if_neg (show ¬ (x == 1) = true by simpa using h1),if_neg h1]
   by_cases h2 : x = 11
   ·subst h2
    rw [if_pos (show ((11 : Int) == 11) = true from rfl),if_pos rfl]
    match r,hb,hl with
    | [],_,_ => exact ⟨(0,[],0,0,[],1),rfl,rfl,fun h => by cases h⟩
    | [_],_,_ => exact ⟨(0,[],0,0,[],1),rfl,rfl,fun h => by cases h⟩
    | m :: n :: r',hb,hl =>
     have hm := hb m (by simp)
     have hn := hb n (by simp)
     rw [if_neg (show ¬ decide ((((m :: n :: r').length : Nat) : Int) < 2) = true by simp; omega),aBw,Option.bind_some,aNt,Option.bind_some,aM1,Option.bind_some,b4 (a := m) (by omega) (by omega),b4 (a := n) (by omega) (by omega)]
     dsimp only
     unfold kZ
     rw [show IntKind.i64.wrap 11 = 11 by decide +kernel,aGX,Option.bind_some]
     by_cases h3 : rW m n = true
     ·rw [if_pos h3,if_pos h3]
      exact ⟨_,rfl,rfl,fun _ => rfl⟩
     ·rw [if_neg h3,if_neg h3]
      exact ⟨_,rfl,rfl,fun h => by cases h⟩
   ·rw [if_neg (show ¬ (x == 11) = true by simpa using h2),if_neg h2]
    unfold kZ
    rw [wx,aHR N (by omega) h2,Option.bind_some]
    exact ⟨_,rfl,rfl,fun _ => rfl⟩
theorem aC7 {N : Nat} (hN : 70000 ≤ N) : ∀ (m : Nat) (b : List Int) (acc : List aM),b.length < m → Byt b → b.length ≤ 100000 → acc.length + b.length ≤ 200000 → kD N m b acc = some (g8 m b acc)
 | 0,b,acc,hm,_,_,_ => by omega
 | m + 1,[],acc,_,_,_,_ => rfl
 | m + 1,x :: r,acc,hm,hb,hl,ha => by
  simp only [List.length_cons] at hm hl ha
  obtain ⟨y,h1,h2,h3⟩ := aMl hN hb (by omega)
  rw [kD,if_pos (decide_eq_true (show (0 : Int) < (((x :: r).length : Nat) : Int) by rw [List.length_cons]; omega)),h1,Option.bind_some,h2,g8]
  by_cases he : (dJ x r).2.2 = 0
  ·obtain ⟨g1,g2,g3,_⟩ := aBg hb he
   have hy := h3 he
   subst hy
   rw [if_pos he,he,if_neg (show ¬ ((0 : Int) != 0) = true by decide)]
   have hlim := kH
   rw [u6 (by simp; omega),Option.bind_some]
   dsimp only
   exact aC7 hN m _ _ (by omega) g2 (by omega) (by simp; omega)
  ·rw [if_neg he,if_pos (show ((dJ x r).2.2 != 0) = true by simpa using he)]
theorem aI9 {N : Nat} (hN : 70000 ≤ N) {b : List Int} (hb : Byt b) : tU N b = some (bT b) := by
 unfold tU bT
 by_cases h : 520 < b.length
 ·rw [if_pos (decide_eq_true (show (520 : Int) < (b.length : Int) by omega)),if_pos h]
 ·rw [if_neg (show ¬ decide ((520 : Int) < (b.length : Int)) = true by simp; omega),if_neg h,aC7 hN N b [] (by omega) hb (by omega) (by simp; omega),Option.bind_some,xL N (b.length + 1) b [] hb (by omega) (by omega)]
  cases g8 (b.length + 1) b [] <;> rfl
theorem aI8 (N : Nat) {o : aM} (ho : vV o) : xK N o.Code o.Data o.M o.N = some (k6 o) := by
 rw [← aHj N ho]
 rfl
theorem aJs (N : Nat) {o : aM} (ho : vV o) (hc : 1 ≤ o.Code ∧ o.Code ≤ 17) : tS N o.Code o.Data o.M o.N = some (kB o) := by
 unfold tS dX lY kB
 by_cases h11 : o.Code = 11
 ·have := ho.multi h11
  simp only [h11]
  rw [b4 (a := 2 * o.N) (by omega) (by omega)]
  simp
 ·obtain ⟨c,hcc⟩ : ∃ c,c = o.Code := ⟨_,rfl⟩
  rw [← hcc] at hc h11 ⊢
  rcases (show c = 1 ∨ c = 2 ∨ c = 3 ∨ c = 4 ∨ c = 5 ∨ c = 6 ∨ c = 7 ∨ c = 8 ∨ c = 9 ∨ c = 10 ∨ c = 12 ∨ c = 13 ∨ c = 14 ∨ c = 15 ∨ c = 16 ∨ c = 17 by omega) with h | h | h | h | h | h | h | h | h | h | h | h | h | h | h | h <;> subst h <;> simp
theorem aDO (N : Nat) (l : List aM) (hl : l.length ≤ 1000) : ∀ (f j : Nat) (op : List Bool),l.length - j < f → j ≤ l.length → op.length ≤ j → dD N l f (j : Int) op = some (aLs (kT (l.drop j) op))
 | 0,j,op,hf,_,_ => by omega
 | f + 1,j,op,hf,hj,ho => by
  rw [dD]
  by_cases h : j < l.length
  ·rw [dT h,if_pos rfl,d8 l h,List.drop_eq_getElem_cons h]
   simp only [Option.bind_some,kT,jM,nX,i1 (show j ≤ 100000 by omega)]
   have ih := fun op' (ho' : op'.length ≤ j + 1) => aDO N l hl f (j + 1) op' (by omega) (by omega) ho'
   by_cases h14 : l[j].Code = 14
   ·have := kH
    rw [if_pos h14,h14,u6 (by simp; omega)]
    exact ih _ (by simp; omega)
   rw [if_neg h14,hH h14]
   by_cases h15 : l[j].Code = 15
   ·rw [if_pos h15,h15]
    by_cases h0 : op = []
    ·rw [if_pos h0,h0]; rfl
    ·have h0' : 1 ≤ op.length := by have := mt lC.2 h0; omega
     rw [if_neg h0,vI h0' (by omega),show ((op.length : Int) == 0) = false from hH (by omega),d8 op (show op.length - 1 < op.length by omega),show op.getD (op.length - 1) true = op[op.length - 1] by simp [show op.length - 1 < op.length by omega]]
     cases hh : op[op.length - 1]
     ·simp only [Bool.false_eq_true,if_false,Option.bind_some,Int.toNat_natCast,show ((15 : Int) == 14) = false from rfl,show ((15 : Int) == 15) = true from rfl,if_true]
      exact ih _ (by simp; omega)
     ·rfl
   rw [if_neg h15,hH h15]
   by_cases h16 : l[j].Code = 16
   ·rw [if_pos h16,h16]
    by_cases h0 : op = []
    ·rw [if_pos h0,h0]; rfl
    ·have h0' : 1 ≤ op.length := by have := mt lC.2 h0; omega
     have e : sub op 0 ((op.length - 1 : Nat) : Int) = some (op.take (op.length - 1)) := by
      unfold sub; rw [if_pos ⟨by omega,by omega,by omega⟩]; simp
     rw [if_neg h0,vI h0' (by omega),show ((op.length : Int) == 0) = false from hH (by omega),e]
     exact ih _ (by simp; omega)
   rw [if_neg h16,hH h16]
   exact ih _ (by omega)
  ·rw [dF h,List.drop_eq_nil_of_le (by omega)]; rfl
theorem aIC {N : Nat} (hN : 70000 ≤ N) {l : List aM} (hl : l.length ≤ 1000) : rI N l = some (s8 l) := by
 have := aDO N l hl N 0 [] (by omega) (by omega) (by simp)
 rw [show ((0 : Nat) : Int) = 0 from rfl,List.drop_zero] at this
 unfold rI s8
 rw [this,Option.bind_some]
 cases kT l [] <;> rfl
section
variable {N : Nat} (hN : 70000 ≤ N) {m : List Int} (hm : m.length = 32) (hb : Byt m)
include hN hm hb
theorem aFF {key sig : List Int} (hk : Byt key) (hs : Byt sig) : mN N sig key m = some (decide (0 < sig.length) && decide (qD N m key sig = 0),qD N m key sig) := by
 rw [aNQ hN hm hb hk hs]
 exact aJu hN hm hb hk hs
theorem aAG (c : Int) (d : List Int) (M : Int) (n : Nat) (hn : n ≤ 100) (ks ss : List (List Int)) (hk : ks.length = n) (hs : ss.length = n) (bk : ∀ x ∈ ks,Byt x) (bs : ∀ x ∈ ss,Byt x) : ∀ (f j : Nat) (cnt : Nat),n - j < f → j ≤ n → cnt ≤ j →
  gV N c d M (n : Int) (ss ++ ks) m f (cnt : Int) (j : Int) = some (if (mK N m (ks.drop j) (ss.drop j) (cnt : Int)).1 = 0 then .brk (mK N m (ks.drop j) (ss.drop j) (cnt : Int)).2 else .ret (false,(mK N m (ks.drop j) (ss.drop j) (cnt : Int)).1))
 | 0,j,cnt,hf,_,_ => by omega
 | f + 1,j,cnt,hf,hj,hc => by
  rw [gV]
  by_cases h : j < n
  ·have h1 : j < ks.length := by omega
   have h2 : j < ss.length := by omega
   have e1 : bS (ss ++ ks) (j : Int) = some ss[j] := by rw [aAX,List.getElem?_append_left h2,List.getElem?_eq_getElem h2]
   have e2 : bS (ss ++ ks) (IntKind.i64.wrap ((n : Int) + (j : Int))) = some ks[j] := by
    rw [show (n : Int) + (j : Int) = ((n + j : Nat) : Int) by omega,b4 (by omega) (by omega),aAX,List.getElem?_append_right (by omega),hs,Nat.add_sub_cancel_left,List.getElem?_eq_getElem h1]
   have hsg := aFF hN hm hb (bk _ (List.getElem_mem h1)) (bs _ (List.getElem_mem h2))
   rw [dT h,if_pos rfl,e1,Option.bind_some,e2,Option.bind_some,cI hm,Option.bind_some,hsg,Option.bind_some,List.drop_eq_getElem_cons h1,List.drop_eq_getElem_cons h2,mK]
   dsimp only
   by_cases hv : qD N m ks[j] ss[j] = 0
   ·rw [hv]
    simp only [show ((0 : Int) != 0) = false from rfl,Bool.false_eq_true,if_false,decide_true,Bool.and_true]
    unfold o7
    rw [i1 (show j ≤ 100000 by omega)]
    by_cases hp : 0 < ss[j].length
    ·rw [if_pos (decide_eq_true hp),i1 (show cnt ≤ 100000 by omega),if_pos (decide_eq_true (show (0 : Int) < (ss[j].length : Int) by omega)),aAG c d M n hn ks ss hk hs bk bs f (j + 1) (cnt + 1) (by omega) (by omega) (by omega)]
     rfl
    ·rw [if_neg (show ¬ decide (0 < ss[j].length) = true by simpa using hp),if_neg (show ¬ decide ((0 : Int) < (ss[j].length : Int)) = true by rw [decide_eq_true_iff]; omega),aAG c d M n hn ks ss hk hs bk bs f (j + 1) cnt (by omega) (by omega) (by omega)]
   ·rw [show (qD N m ks[j] ss[j] != 0) = true by simpa using hv]
    simp only [if_true]
    rw [if_neg hv]
  ·rw [dF h,List.drop_eq_nil_of_le (by omega)]
   simp [mK]
theorem aJ1 (c : Int) (d : List Int) (M : Int) (n : Nat) (hn : n ≤ 100) (ks ss : List (List Int)) (hk : ks.length = n) (hs : ss.length = n) (bk : ∀ x ∈ ks,Byt x) (bs : ∀ x ∈ ss,Byt x) :
  tQ N c d M (n : Int) (ss ++ ks) m = some (if (mK N m ks ss 0).1 = 0 then (decide (M ≤ (mK N m ks ss 0).2),0) else (false,(mK N m ks ss 0).1)) := by
 have := aAG hN hm hb c d M n hn ks ss hk hs bk bs N 0 0 (by omega) (by omega) (by omega)
 rw [show ((0 : Nat) : Int) = 0 from rfl,List.drop_zero,List.drop_zero] at this
 unfold tQ
 rw [this,Option.bind_some]
 by_cases h : (mK N m ks ss 0).1 = 0
 ·rw [if_pos h,if_pos h]; rfl
 ·rw [if_neg h,if_neg h]
end
theorem aDr {α : Type} {st : List α} {k : Nat} (hk : k ≤ st.length) (hl : st.length ≤ 1000) : sub st 0 (IntKind.i64.wrap ((st.length : Int) - (k : Int))) = some (st.take (st.length - k)) := by
 rw [show (st.length : Int) - (k : Int) = ((st.length - k : Nat) : Int) by omega,b4 (by omega) (by omega)]
 unfold sub
 rw [if_pos ⟨by omega,by omega,by omega⟩,Int.toNat_natCast]
 rfl
theorem aH6 {α : Type} {st : List α} (h : 2 ≤ st.length) : ∃ l x y,st = l ++ [x,y] := by
 have hd : (st.drop (st.length - 2)).length = 2 := by rw [List.length_drop]; omega
 match hm : st.drop (st.length - 2),hd with
 | [x,y],_ => exact ⟨st.take (st.length - 2),x,y,by rw [← hm,List.take_append_drop]⟩
theorem aIf (l : List (List Int)) (x y : List Int) : d7 (l ++ [x,y]) 1 = y ∧ d7 (l ++ [x,y]) 2 = x ∧ (l ++ [x,y]).take ((l ++ [x,y]).length - 2) = l ∧ (l ++ [x,y]).length = l.length + 2 := by
 have hlen : (l ++ [x,y]).length = l.length + 2 := by simp
 refine ⟨?_, ?_, ?_,hlen⟩
 ·unfold d7
  rw [hlen,List.getD_eq_getElem?_getD,List.getElem?_append_right (by omega),show l.length + 2 - 1 - l.length = 1 by omega]
  rfl
 ·unfold d7
  rw [hlen,List.getD_eq_getElem?_getD,List.getElem?_append_right (by omega),show l.length + 2 - 2 - l.length = 0 by omega]
  rfl
 ·rw [hlen,Nat.add_sub_cancel,List.take_left]
theorem aMz {st : List (List Int)} (h : 2 ≤ st.length) : (st.set (st.length - 1) (d7 st 2)).set (st.length - 2) (d7 st 1) = st.take (st.length - 2) ++ [d7 st 1,d7 st 2] := by
 obtain ⟨l,x,y,rfl⟩ := aH6 h
 obtain ⟨e1,e2,e3,e4⟩ := aIf l x y
 rw [e1,e2,e3,e4,show l.length + 2 - 1 = l.length + 1 by omega,Nat.add_sub_cancel,List.set_append_right _ _ (by omega),show l.length + 1 - l.length = 1 by omega,List.set_append_right _ _ (by omega),Nat.sub_self]
 rfl
theorem aIt {x : Int} {r : List Int} (he : (dJ x r).2.2 = 0) : 1 ≤ (dJ x r).1.Code ∧ (dJ x r).1.Code ≤ 17 := by
 unfold dJ at he ⊢
 by_cases h0 : x < 1 ∨ 17 < x
 ·rw [if_pos h0] at he; cases he
 ·rw [if_neg h0] at he ⊢
  by_cases h1 : x = 1
  ·rw [if_pos h1] at he ⊢
   match r with
   | [] => cases he
   | n :: r' =>
    by_cases h2 : (r'.length : Int) < n
    ·simp only [if_pos h2] at he; cases he
    ·simp only [if_neg h2]; decide
  ·rw [if_neg h1] at he ⊢
   by_cases h2 : x = 11
   ·rw [if_pos h2] at he ⊢
    match r with
    | [] => cases he
    | [_] => cases he
    | m :: n :: r' =>
     by_cases h3 : rW m n = true
     ·simp only [if_pos h3]; decide
     ·simp only [if_neg h3] at he; cases he
   ·rw [if_neg h2]
    dsimp only
    omega
def aGs (y : List (List Int) × Int) (z : Int × List (List Int)) : Prop := y.2 = z.1 ∧ (z.1 = 0 → y.1 = z.2)
theorem aLF (N : Nat) (m : List Int) (l : List (List Int)) (x y : List Int) : qT N m (l ++ [x,y]) 1 1 = if qD N m y x = 0 then (0,l ++ [w9 (decide (0 < x.length))]) else (qD N m y x,l ++ [x,y]) := by
 have e1 : (l ++ [x,y]).drop ((l ++ [x,y]).length - 1) = [y] := by
  rw [show l ++ [x,y] = (l ++ [x]) ++ [y] by simp]
  exact List.drop_left' (by simp)
 have e0 : (l ++ [x,y]).take ((l ++ [x,y]).length - 1) = l ++ [x] := by
  rw [show l ++ [x,y] = (l ++ [x]) ++ [y] by simp]
  exact List.take_left' (by simp)
 have e2 : (l ++ [x]).drop ((l ++ [x,y]).length - 2 * 1) = [x] := List.drop_left' (by simp)
 have e3 : (l ++ [x,y]).take ((l ++ [x,y]).length - 2 * 1) = l := List.take_left' (by simp)
 unfold qT
 rw [e0,e1,e2,e3]
 by_cases hv : qD N m y x = 0
 ·have hs : mK N m [y] [x] 0 = (0,if decide ((0 : Int) < (x.length : Int)) then 0 + 1 else 0) := by
   rw [mK,hv]
   rfl
  rw [hs,if_pos rfl,if_pos hv]
  dsimp only
  by_cases hp : 0 < x.length
  ·rw [if_pos (decide_eq_true (show (0 : Int) < (x.length : Int) by omega)),decide_eq_true hp]; rfl
  ·rw [if_neg (show ¬ decide ((0 : Int) < (x.length : Int)) = true by rw [decide_eq_true_iff]; omega),decide_eq_false hp]; rfl
 ·have hs : mK N m [y] [x] 0 = (qD N m y x,0) := by
   rw [mK,if_pos (show (qD N m y x != 0) = true by simpa using hv)]
  rw [hs,if_neg hv,if_neg hv]
section
variable {N : Nat} (hN : 70000 ≤ N) {m : List Int} (hm : m.length = 32) (hb : Byt m)
include hN hm hb
theorem aKN {h a : Int} {o : aM} (ho : vV o) (hc : 1 ≤ o.Code ∧ o.Code ≤ 17) (h14 : o.Code ≠ 14) (h15 : o.Code ≠ 15) (h16 : o.Code ≠ 16) {st : List (List Int)} (hs : WS st) (hn : kB o ≤ (st.length : Int)) :
  ∃ y,v6 N o.Code o.Data o.M o.N st m h a = some y ∧ aGs y (rR N m h a o st) := by
 have hl := hs.len
 have hd := ho.data
 have hpush : ∀ x : List Int,∃ y,k5 N st x = some y ∧ aGs y (xI st x) := fun x => by
  refine ⟨_,aIz N (by omega) x, ?_⟩
  unfold xI aGs
  by_cases h64 : 64 ≤ st.length
  ·rw [if_pos h64,if_pos h64]; exact ⟨rfl,fun h => by cases h⟩
  ·rw [if_neg h64,if_neg h64]; exact ⟨rfl,fun _ => rfl⟩
 have hflag : ∀ v,kS N v = some (w9 v) := fun v => by rw [aJd,aCH hN]
 have htrue : ∀ x : List Int,x.length ≤ 520 → lR N x = some (nU x) := fun x hx => by rw [aDh,wG hN (by omega)]
 have hst : ∀ x ∈ st,Byt x := fun x hx => (hs.it x hx).1
 unfold v6 rR
 unfold kB at hn
 by_cases c1 : o.Code = 1
 ·obtain ⟨y,h1,h2⟩ := hpush o.Data
  rw [if_pos c1,if_pos (show (o.Code == 1) = true by simpa using c1),aGe hN _ (by simp) (by simp; omega),Option.bind_some,show [o.Data].flatten = o.Data by simp,h1,Option.bind_some]
  exact ⟨_,rfl,h2⟩
 rw [if_neg c1,if_neg (show ¬ (o.Code == 1) = true by simpa using c1)]
 have g1 : o.Code ≠ 17 → 1 ≤ st.length := fun h17 => by
  rw [if_neg (show ¬ (o.Code = 1 ∨ o.Code = 15 ∨ o.Code = 16 ∨ o.Code = 17) by omega)] at hn
  split at hn
  ·omega
  ·split at hn
   ·rename_i h11
    have := ho.multi h11
    omega
   ·omega
 have g2 : (o.Code = 4 ∨ o.Code = 5 ∨ o.Code = 10) → 2 ≤ st.length := fun h2 => by
  rw [if_neg (show ¬ (o.Code = 1 ∨ o.Code = 15 ∨ o.Code = 16 ∨ o.Code = 17) by omega),if_pos h2] at hn
  omega
 have i1' : o.Code ≠ 17 → Byt (d7 st 1) ∧ (d7 st 1).length ≤ 520 ∧ bS st (IntKind.i64.wrap ((st.length : Int) - 1)) = some (d7 st 1) := fun h17 => pH hs (k := 1) (by omega) (g1 h17)
 have i2' : (o.Code = 4 ∨ o.Code = 5 ∨ o.Code = 10) → Byt (d7 st 2) ∧ (d7 st 2).length ≤ 520 ∧ bS st (IntKind.i64.wrap ((st.length : Int) - 2)) = some (d7 st 2) := fun h2 => pH hs (k := 2) (by omega) (g2 h2)
 have t1 : o.Code ≠ 17 → sub st 0 (IntKind.i64.wrap ((st.length : Int) - 1)) = some (st.take (st.length - 1)) := fun h17 => aDr (k := 1) (g1 h17) (by omega)
 have t2 : (o.Code = 4 ∨ o.Code = 5 ∨ o.Code = 10) → sub st 0 (IntKind.i64.wrap ((st.length : Int) - 2)) = some (st.take (st.length - 2)) := fun h2 => aDr (k := 2) (g2 h2) (by omega)
 by_cases c2 : o.Code = 2
 ·obtain ⟨y,h1,h2⟩ := hpush (d7 st 1)
  rw [if_pos c2,if_pos (show (o.Code == 2) = true by simpa using c2),(i1' (by omega)).2.2,Option.bind_some,h1,Option.bind_some]
  exact ⟨_,rfl,h2⟩
 rw [if_neg c2,if_neg (show ¬ (o.Code == 2) = true by simpa using c2)]
 by_cases c3 : o.Code = 3
 ·rw [if_pos c3,if_pos (show (o.Code == 3) = true by simpa using c3),t1 (by omega),Option.bind_some]
  exact ⟨_,rfl,rfl,fun _ => rfl⟩
 rw [if_neg c3,if_neg (show ¬ (o.Code == 3) = true by simpa using c3)]
 by_cases c4 : o.Code = 4
 ·rw [if_pos c4,if_pos (show (o.Code == 4) = true by simpa using c4),t2 (.inl c4),Option.bind_some,(i1' (by omega)).2.2,Option.bind_some,(i2' (.inl c4)).2.2,Option.bind_some,vP (by simp; omega),Option.bind_some,aMz (g2 (.inl c4))]
  exact ⟨_,rfl,rfl,fun _ => rfl⟩
 rw [if_neg c4,if_neg (show ¬ (o.Code == 4) = true by simpa using c4)]
 by_cases c5 : o.Code = 5
 ·rw [if_pos c5,if_pos (show (o.Code == 5) = true by simpa using c5),t2 (.inr (.inl c5)),Option.bind_some,(i2' (.inr (.inl c5))).2.2,Option.bind_some,(i1' (by omega)).2.2,Option.bind_some]
  unfold tC
  rw [Option.bind_some,hflag,Option.bind_some,vP (by simp; omega),Option.bind_some]
  refine ⟨_,rfl,rfl,fun _ => ?_⟩
  unfold eqE
  rw [show ((nS (d7 st 2)).toList == (nS (d7 st 1)).toList) = ((nS (d7 st 1)).toList == (nS (d7 st 2)).toList) from Bool.beq_comm]
 rw [if_neg c5,if_neg (show ¬ (o.Code == 5) = true by simpa using c5)]
 by_cases c6 : o.Code = 6
 ·rw [if_pos c6,if_pos (show (o.Code == 6) = true by simpa using c6),t1 (by omega),Option.bind_some,(i1' (by omega)).2.2,Option.bind_some,htrue _ (i1' (by omega)).2.1,Option.bind_some,hflag,Option.bind_some,vP (by simp; omega),Option.bind_some]
  exact ⟨_,rfl,rfl,fun _ => rfl⟩
 rw [if_neg c6,if_neg (show ¬ (o.Code == 6) = true by simpa using c6)]
 by_cases c7 : o.Code = 7
 ·rw [if_pos c7,if_pos (show (o.Code == 7) = true by simpa using c7),(i1' (by omega)).2.2,Option.bind_some,htrue _ (i1' (by omega)).2.1,Option.bind_some]
  cases nU (d7 st 1) with
  | false => exact ⟨_,rfl,rfl,fun h => by cases h⟩
  | true =>
   rw [if_neg (show ¬ (!true) = true by decide),t1 (by omega),Option.bind_some]
   exact ⟨_,rfl,rfl,fun _ => rfl⟩
 rw [if_neg c7,if_neg (show ¬ (o.Code == 7) = true by simpa using c7)]
 by_cases c8 : o.Code = 8
 ·rw [if_pos c8,if_pos (show (o.Code == 8) = true by simpa using c8),(i1' (by omega)).2.2,Option.bind_some,aEA N hN _ (i1' (by omega)).1 (by have := (i1' (by omega)).2.1; omega),Option.bind_some,cI (nY N _),Option.bind_some,t1 (by omega),Option.bind_some,vP (by simp; omega),Option.bind_some]
  exact ⟨_,rfl,rfl,fun _ => rfl⟩
 rw [if_neg c8,if_neg (show ¬ (o.Code == 8) = true by simpa using c8)]
 by_cases c9 : o.Code = 9
 ·have hi := (i1' (by omega)).2.1
  obtain ⟨y,h1,h2⟩ := hpush (aBd N ((d7 st 1).length : Nat))
  rw [if_pos c9,if_pos (show (o.Code == 9) = true by simpa using c9),(i1' (by omega)).2.2,Option.bind_some,show IntKind.u32.wrap ((d7 st 1).length : Int) = ((d7 st 1).length : Int) by rw [IntKind.wrap_u32]; omega,aDn N (by omega),(aE6 hN (by omega)).1,Option.bind_some,h1,Option.bind_some]
  exact ⟨_,rfl,h2⟩
 rw [if_neg c9,if_neg (show ¬ (o.Code == 9) = true by simpa using c9)]
 by_cases c10 : o.Code = 10
 ·have b1 := (i1' (by omega)).1
  have b2 := (i2' (.inr (.inr c10))).1
  rw [if_pos c10,if_pos (show (o.Code == 10) = true by simpa using c10),(i2' (.inr (.inr c10))).2.2,Option.bind_some,(i1' (by omega)).2.2,Option.bind_some,cI hm,Option.bind_some,aFF hN hm hb b1 b2,Option.bind_some,t2 (.inr (.inr c10)),Option.bind_some,hflag,Option.bind_some,vP (by simp; omega),Option.bind_some]
  obtain ⟨l,x,y,rfl⟩ := aH6 (g2 (.inr (.inr c10)))
  obtain ⟨e1,e2,e3,e4⟩ := aIf l x y
  rw [e1,e2,e3,aLF]
  by_cases hv : qD N m y x = 0
  ·rw [if_pos hv,hv]
   exact ⟨_,rfl,rfl,fun _ => by simp⟩
  ·rw [if_neg hv]
   exact ⟨_,rfl,rfl,fun h => absurd h hv⟩
 rw [if_neg c10,if_neg (show ¬ (o.Code == 10) = true by simpa using c10)]
 by_cases c11 : o.Code = 11
 ·obtain ⟨m1,m2,m3⟩ := ho.multi c11
  rw [if_neg (show ¬ (o.Code = 1 ∨ o.Code = 15 ∨ o.Code = 16 ∨ o.Code = 17) by omega),if_neg (show ¬ (o.Code = 4 ∨ o.Code = 5 ∨ o.Code = 10) by omega),if_pos c11] at hn
  obtain ⟨n,hnn⟩ : ∃ n : Nat,o.N = n := ⟨o.N.toNat,by omega⟩
  rw [hnn] at hn m2 m3 ⊢
  have hw : IntKind.i64.wrap (2 * (n : Int)) = ((2 * n : Nat) : Int) := by rw [b4 (by omega) (by omega)]; omega
  have hw2 : IntKind.i64.wrap ((st.length : Int) - ((2 * n : Nat) : Int)) = ((st.length - 2 * n : Nat) : Int) := by
   rw [b4 (by omega) (by omega)]; omega
  have es : sub st ((st.length - 2 * n : Nat) : Int) (st.length : Int) = some (st.drop (st.length - 2 * n)) := by
   unfold sub
   rw [if_pos ⟨by omega,by omega,by omega⟩,Int.toNat_natCast,Int.toNat_natCast,List.take_of_length_le (Nat.le_refl _)]
  have et : sub st 0 ((st.length - 2 * n : Nat) : Int) = some (st.take (st.length - 2 * n)) := by
   unfold sub
   rw [if_pos ⟨by omega,by omega,by omega⟩,Int.toNat_natCast]
   rfl
  have key : ∀ k j : Nat,j ≤ k → k ≤ st.length → st.drop j = (st.take k).drop j ++ st.drop k := by
   intro k j h1 h2
   have := congrArg (List.drop j) (List.take_append_drop k st).symm
   rw [List.drop_append_of_le_length (by rw [List.length_take]; omega)] at this
   exact this
  have ed := key (st.length - n) (st.length - 2 * n) (by omega) (by omega)
  have hmu := aJ1 hN hm hb o.Code o.Data o.M n (by omega) (st.drop (st.length - n)) ((st.take (st.length - n)).drop (st.length - 2 * n)) (by rw [List.length_drop]; omega) (by rw [List.length_drop,List.length_take]; omega) (fun x hx => hst x (List.mem_of_mem_drop hx)) (fun x hx => hst x (List.mem_of_mem_take (List.mem_of_mem_drop hx)))
  rw [if_pos c11,if_pos (show (o.Code == 11) = true by simpa using c11),hw,hw2,es,Option.bind_some,cI hm,Option.bind_some,ed,hmu,Option.bind_some,et,Option.bind_some,hflag,Option.bind_some,vP (by simp; omega),Option.bind_some]
  unfold qT
  rw [Int.toNat_natCast]
  by_cases hv : (mK N m (st.drop (st.length - n)) ((st.take (st.length - n)).drop (st.length - 2 * n)) 0).1 = 0
  ·rw [if_pos hv,if_pos hv]
   exact ⟨_,rfl,rfl,fun _ => rfl⟩
  ·rw [if_neg hv,if_neg hv]
   exact ⟨_,rfl,rfl,fun h => absurd h hv⟩
 rw [if_neg c11,if_neg (show ¬ (o.Code == 11) = true by simpa using c11)]
 by_cases c12 : o.Code = 12
 ·rw [if_pos c12,if_pos (show (o.Code == 12) = true by simpa using c12),(i1' (by omega)).2.2,Option.bind_some,aD4,aEl hN,Option.bind_some]
  exact ⟨_,rfl,rfl,fun _ => rfl⟩
 rw [if_neg c12,if_neg (show ¬ (o.Code == 12) = true by simpa using c12)]
 by_cases c13 : o.Code = 13
 ·rw [if_pos c13,if_pos (show (o.Code == 13) = true by simpa using c13),(i1' (by omega)).2.2,Option.bind_some,aD4,aEl hN,Option.bind_some]
  exact ⟨_,rfl,rfl,fun _ => rfl⟩
 rw [if_neg c13,if_neg (show ¬ (o.Code == 13) = true by simpa using c13),if_pos (show o.Code = 17 by omega)]
 exact ⟨_,rfl,rfl,fun h => by cases h⟩
end
def o5 (br : List aG) : List aR := br.map fun b => ⟨b.outer,b.taken⟩
theorem zE (br : List aG) : (o5 br).length = br.length := by simp [o5]
theorem aCN {br : List aG} (h : br ≠ []) (hl : br.length ≤ 1000) : bS (o5 br) (IntKind.i64.wrap (((o5 br).length : Int) - 1)) = some ⟨(qH br).outer,(qH br).taken⟩ := by
 have h0 : 1 ≤ br.length := by have := mt lC.2 h; omega
 rw [zE,vI h0 (by omega),aAX]
 unfold o5 qH
 rw [List.getElem?_map,List.getElem?_eq_getElem (show br.length - 1 < br.length by omega),List.getD_eq_getElem?_getD,List.getElem?_eq_getElem (show br.length - 1 < br.length by omega)]
 rfl
theorem aIG (N : Nat) {br : List aG} (hl : br.length ≤ 1000) : r3 N (o5 br) = some ((qH br).outer && (qH br).taken) := by
 unfold r3 lD
 by_cases h : br = []
 ·subst h; rfl
 ·have h0 : 1 ≤ br.length := by have := mt lC.2 h; omega
  rw [if_neg (show ¬ (((o5 br).length : Int) == 0) = true by rw [zE]; simp; intro e; exact h e),aCN h hl,Option.bind_some]
  dsimp only
  cases (qH br).outer <;> rfl
theorem aMi {br : List aG} (i : Nat) (b : aG) : (o5 br).set i ⟨b.outer,b.taken⟩ = o5 (br.set i b) := by
 unfold o5
 rw [List.map_set]
theorem aLh {br : List aG} (i : Nat) : (o5 br).take i = o5 (br.take i) := by
 unfold o5
 rw [List.map_take]
theorem aGK {br : List aG} (b : aG) : o5 br ++ [⟨b.outer,b.taken⟩] = o5 (br ++ [b]) := by simp [o5]
abbrev aKr := (List (List Int)) → Int → Int → (List aR) → Option (LR ((List (List Int)) × Int) ((List (List Int)) × Int × Int))
def xF (rec : aKr) (j : Int) (x : Int × St) : Option (LR ((List (List Int)) × Int) ((List (List Int)) × Int × Int)) :=
 if x.1 = 0 then rec x.2.st x.2.c (IntKind.i64.wrap (j + 1)) (o5 x.2.br) else some (.ret ([],0,x.1))
section
variable {N : Nat} (hN : 70000 ≤ N) {m : List Int} (hm : m.length = 32) (hb : Byt m)
include hN hm hb
theorem aG3 {h a : Int} {o : aM} (ho : vV o) (hc : 1 ≤ o.Code ∧ o.Code ≤ 17) {st : List (List Int)} (hs : WS st) {br : List aG} (hbr : br.length ≤ 1000) (h15 : o.Code = 15 ∨ o.Code = 16 → br ≠ []) (k : Bool) (c : Int) (hk : k = true → kB o ≤ (st.length : Int)) (bE : List aM × Int) (j : Int) (rec : aKr) :
  pL N m h a bE st j (o5 br) o k rec c = xF rec j (aBe N m h a o k ⟨st,br,c⟩) := by
 have hl := hs.len
 unfold pL aBe
 by_cases c14 : o.Code = 14
 ·rw [if_pos c14,if_pos (show (o.Code == 14) = true by simpa using c14)]
  have happ : ∀ x,eZ 2 (o5 br) [x] = some (o5 br ++ [x]) := fun x => u6 (by have := kH; rw [zE]; simp; omega)
  cases k with
  | true =>
   have hn := hk rfl
   unfold kB at hn
   rw [if_neg (by omega),if_neg (by omega),if_neg (by omega)] at hn
   have q := pH hs (k := 1) (by omega) (by omega)
   have q2 : bS st (IntKind.i64.wrap ((st.length : Int) - 1)) = some (d7 st 1) := q.2.2
   have t1 : sub st 0 (IntKind.i64.wrap ((st.length : Int) - 1)) = some (st.take (st.length - 1)) := aDr (k := 1) (by omega) (by omega)
   rw [if_pos rfl,q2,Option.bind_some,aDh,wG hN (by have := q.2.1; omega),Option.bind_some,t1,Option.bind_some]
   unfold pN e9 xF
   rw [happ,Option.bind_some,if_pos rfl,← aGK]
   rfl
  | false =>
   rw [if_neg (show ¬ (false = true) by decide)]
   unfold pN e9 xF
   rw [happ,Option.bind_some,if_pos rfl,← aGK]
   rfl
 rw [if_neg c14,if_neg (show ¬ (o.Code == 14) = true by simpa using c14)]
 by_cases c15 : o.Code = 15
 ·have h0 := h15 (.inl c15)
  have h0' : 1 ≤ br.length := by have := mt lC.2 h0; omega
  rw [if_pos c15,if_pos (show (o.Code == 15) = true by simpa using c15),aCN h0 hbr,Option.bind_some,zE,vI h0' (by omega),Int.toNat_natCast]
  unfold e9 xF
  rw [if_pos rfl,← aMi]
 rw [if_neg c15,if_neg (show ¬ (o.Code == 15) = true by simpa using c15)]
 by_cases c16 : o.Code = 16
 ·have h0 := h15 (.inr c16)
  have h0' : 1 ≤ br.length := by have := mt lC.2 h0; omega
  have e : sub (o5 br) 0 (IntKind.i64.wrap (((o5 br).length : Int) - 1)) = some (o5 (br.take (br.length - 1))) := by
   rw [zE,vI h0' (by omega),← aLh]
   unfold sub
   rw [if_pos ⟨by omega,by omega,by rw [zE]; omega⟩]
   simp
  rw [if_pos c16,if_pos (show (o.Code == 16) = true by simpa using c16),e,Option.bind_some]
  unfold e9 xF
  rw [if_pos rfl]
 rw [if_neg c16,if_neg (show ¬ (o.Code == 16) = true by simpa using c16)]
 cases k with
 | false =>
  rw [if_neg (show ¬ (false = true) by decide),if_neg (show ¬ (false = true) by decide)]
  unfold e9 xF
  rw [if_pos rfl]
 | true =>
  obtain ⟨y,h1,h2,h3⟩ := aKN hN hm hb (h := h) (a := a) ho hc c14 c15 c16 hs (hk rfl)
  rw [if_pos rfl,if_pos rfl,h1,Option.bind_some,h2]
  unfold xF
  dsimp only
  by_cases he : (rR N m h a o st).1 = 0
  ·rw [if_pos he,he,if_neg (show ¬ ((0 : Int) != 0) = true by decide),h3 he]
   rfl
  ·rw [if_neg he,if_pos (show ((rR N m h a o st).1 != 0) = true by simpa using he)]
end
section
variable {N : Nat} (hN : 70000 ≤ N) {m : List Int} (hm : m.length = 32) (hb : Byt m)
include hN hm hb
theorem aJm {h a : Int} {o : aM} (ho : vV o) (hc : 1 ≤ o.Code ∧ o.Code ≤ 17) {s : St} (hs : OkS s) (hbr : s.br.length ≤ 1000) (h15 : o.Code = 15 ∨ o.Code = 16 → s.br ≠ []) (bE : List aM × Int) (j : Int) (rec : aKr) :
  o8 N m h a bE s.st s.c j (o5 s.br) o rec (aAj o s.br) = xF rec j (oC N m h a o s) := by
 have hp := aFs ho
 have hcc := hs.c
 unfold o8 oC
 cases aAj o s.br with
 | false =>
  rw [if_neg (show ¬ (false = true) by decide),if_neg (show ¬ (false = true) by decide)]
  exact aG3 hN hm hb ho hc hs.ws hbr h15 false s.c (fun h => by cases h) bE j rec
 | true =>
  rw [if_pos rfl,if_pos rfl,aI8 N ho,Option.bind_some,b4 (a := s.c + k6 o) (by omega) (by omega)]
  by_cases h5 : 500 < s.c + k6 o
  ·rw [if_pos (decide_eq_true h5),if_pos h5]
   rfl
  ·rw [if_neg (show ¬ decide (500 < s.c + k6 o) = true by simpa using h5),if_neg h5,aJs N ho hc,Option.bind_some]
   by_cases h6 : (s.st.length : Int) < kB o
   ·rw [if_pos (decide_eq_true h6),if_pos h6]
    rfl
   ·rw [if_neg (show ¬ decide ((s.st.length : Int) < kB o) = true by simpa using h6),if_neg h6]
    exact aG3 hN hm hb ho hc hs.ws hbr h15 true (s.c + k6 o) (fun _ => by omega) bE j rec
theorem aFw {h a : Int} (ops : List aM) (e : Int) (hv : ∀ o ∈ ops,vV o ∧ 1 ≤ o.Code ∧ o.Code ≤ 17) (ho : ops.length ≤ 600) : ∀ (f j : Nat) (s : St) (l q : List Bool),ops.length - j < f → j ≤ ops.length → OkS s → s.br.length = l.length → kT (ops.drop j) l = some q → s.br.length ≤ j →
  cR N m h a (ops,e) f s.st s.c (j : Int) (o5 s.br) = some (if (jI N m h a (ops.drop j) s).1 = 0 then .brk ((jI N m h a (ops.drop j) s).2.st,(jI N m h a (ops.drop j) s).2.c) else .ret ([],0,(jI N m h a (ops.drop j) s).1))
 | 0,j,s,l,q,hf,_,_,_,_,_ => by omega
 | f + 1,j,s,l,q,hf,hj,hs,hl,hn,hbj => by
  rw [cR]
  dsimp only
  by_cases h' : j < ops.length
  ·have hvo := hv _ (List.getElem_mem h')
   rw [List.drop_eq_getElem_cons h'] at hn ⊢
   have h15 : ops[j].Code = 15 ∨ ops[j].Code = 16 → s.br ≠ [] := fun hc => by
    intro hnil
    exact (aFv hn).1 hc (lC.2 (by rw [← hl,hnil]; rfl))
   have ht := aJm hN hm hb (h := h) (a := a) hvo.1 hvo.2 hs (by omega) h15 (ops,e) (j : Int) (cR N m h a (ops,e) f)
   rw [dT h',if_pos rfl,d8 ops h',Option.bind_some,aIG N (by omega),Option.bind_some]
   have hJ : (if (ops[j].Code == 15) = true then mG N m h a (ops,e) s.st s.c (j : Int) (o5 s.br) ops[j] ((qH s.br).outer && (qH s.br).taken) (cR N m h a (ops,e) f) true else mG N m h a (ops,e) s.st s.c (j : Int) (o5 s.br) ops[j] ((qH s.br).outer && (qH s.br).taken) (cR N m h a (ops,e) f) (ops[j].Code == 16)) = xF (cR N m h a (ops,e) f) (j : Int) (oC N m h a ops[j] s) := by
    rw [← ht]
    unfold mG aAj
    by_cases c15 : ops[j].Code = 15
    ·rw [if_pos (show (ops[j].Code == 15) = true by simpa using c15),if_pos rfl,aCN (h15 (.inl c15)) (by omega),Option.bind_some,if_pos (show ops[j].Code = 15 ∨ ops[j].Code = 16 from .inl c15)]
    ·rw [if_neg (show ¬ (ops[j].Code == 15) = true by simpa using c15)]
     by_cases c16 : ops[j].Code = 16
     ·rw [if_pos (show (ops[j].Code == 16) = true by simpa using c16),aCN (h15 (.inr c16)) (by omega),Option.bind_some,if_pos (show ops[j].Code = 15 ∨ ops[j].Code = 16 from .inr c16)]
     ·rw [if_neg (show ¬ (ops[j].Code == 16) = true by simpa using c16),if_neg (show ¬ (ops[j].Code = 15 ∨ ops[j].Code = 16) by omega)]
   rw [hJ]
   obtain ⟨s',k1,k2⟩ := aDx hN hm hb (h := h) (a := a) hvo.1 hs hl hn (by omega)
   unfold xF
   rw [jI]
   by_cases h0 : (oC N m h a ops[j] s).1 = 0
   ·obtain ⟨es,g1,g2,g3,l',g4,g5⟩ := k2 h0
    rw [if_pos h0,if_pos h0,i1 (by omega),← es]
    exact aFw ops e hv ho f (j + 1) s' l' q (by omega) (by omega) g1 g4 g5 (by omega)
   ·rw [if_neg h0,if_neg h0,if_neg h0]
  ·rw [dF h',List.drop_eq_nil_of_le (by omega)]
   rfl
end
theorem aC9 : ∀ (k : Nat) (b : List Int) (acc l : List aM),(∀ o ∈ acc,1 ≤ o.Code ∧ o.Code ≤ 17) → g8 k b acc = .brk l → ∀ o ∈ l,1 ≤ o.Code ∧ o.Code ≤ 17
 | 0,_,_,_,hv,h => by
  injection h with h
  subst h
  exact hv
 | k + 1,[],acc,l,hv,h => by
  injection h with h
  subst h
  exact hv
 | k + 1,x :: r,acc,l,hv,h => by
  simp only [g8] at h
  by_cases he : (dJ x r).2.2 = 0
  ·rw [if_pos he] at h
   exact aC9 k _ _ l (fun o ho => by
    rcases List.mem_append.1 ho with g | g
    ·exact hv o g
    ·rw [List.mem_singleton.1 g]; exact aIt he) h
  ·rw [if_neg he] at h; cases h
theorem aHO {b : List Int} (hb : Byt b) (h : (bT b).2 = 0) : ∀ o ∈ (bT b).1,1 ≤ o.Code ∧ o.Code ≤ 17 := by
 obtain ⟨_,_,_,p⟩ := aAx hb h
 exact aC9 _ b [] _ (by simp) p
section
variable {N : Nat} (hN : 70000 ≤ N) {m : List Int} (hm : m.length = 32) (hb : Byt m)
include hN hm hb
theorem aH8 {b : List Int} (hbb : Byt b) {st : List (List Int)} (hst : ∀ x ∈ st,Byt x) (h a : Int) : uN N b st m h a = some (o6 N b st m h a) := by
 unfold uN o6
 rw [aI9 hN hbb]
 simp only [Option.bind_some]
 by_cases hp : (bT b).2 = 0
 ·obtain ⟨p1,p2,_⟩ := aAx hbb hp
  rw [if_neg (by simpa using hp),hp,aIC hN (by omega),aLf hN]
  simp only [Option.bind_some,show ((0 : Int) != 0) = false from rfl,Bool.false_eq_true,if_false]
  cases hn : s8 (bT b).1 with
  | false => rfl
  | true =>
   cases hB : tZ st with
   | false => rfl
   | true =>
    have hw := (aCz hst).1 hB
    have hl := hw.len
    have lp := aFw hN hm hb (h := h) (a := a) (bT b).1 (bT b).2 (fun o ho => ⟨p1 o ho,aHO hbb hp o ho⟩) (by omega) N 0 ⟨st,[],0⟩ [] [] (by omega) (by omega) ⟨hw,by simp⟩ rfl (aDo.1 hn) (by simp)
    rw [show ((0 : Nat) : Int) = 0 from rfl,List.drop_zero] at lp
    simp only [Bool.not_true,Bool.false_eq_true,Bool.true_eq_false,if_false,aIV hN hl (fun x hx => (hw.it x hx).2),Option.bind_some]
    rw [show (cR N m h a (bT b) N st 0 0 []) = _ from lp]
    by_cases he : (jI N m h a (bT b).1 ⟨st,[],0⟩).1 = 0
    ·rw [if_pos he,if_pos he]; rfl
    ·rw [if_neg he,if_neg he]; rfl
 ·rw [if_pos hp,show ((bT b).2 != 0) = true by simpa using hp]; rfl
theorem aMI {b : List Int} (hbb : Byt b) {st : List (List Int)} (hst : ∀ x ∈ st,Byt x) (h a : Int) : nH N b st m h a = some (aLd (o6 N b st m h a)) := by
 rw [← aJx hN hm hb hbb hst]
 unfold nH kM
 rw [aH8 hN hm hb hbb hst,aHm hN hm hb hbb hst]
 simp only [aDh]
end
theorem aI5 {N : Nat} (hN : 70000 ≤ N) {l : List (List Int)} (hl : l.length ≤ 1000) : nL N l l = some true := by
 have lp : ∀ (f j : Nat),l.length - j < f → j ≤ l.length → gG N l l f (j : Int) = some (.brk ()) := by
  intro f
  induction f with
  | zero => intro j hf; omega
  | succ f ih =>
   intro j hf hj
   rw [gG]
   by_cases hlt : j < l.length
   ·rw [dT hlt,if_pos rfl,d8 l hlt]
    simp only [Option.bind_some,tC,beq_self_eq_true,Bool.not_true,Bool.false_eq_true,if_false,i1 (show j ≤ 100000 by omega)]
    exact ih (j + 1) (by omega) (by omega)
   ·rw [dF hlt]; rfl
 have := lp N 0 (by omega) (by omega)
 rw [show ((0 : Nat) : Int) = 0 from rfl] at this
 unfold nL
 rw [if_neg (by simp),this]
 rfl
def NN : Nat := 70000
theorem aBp : 70000 ≤ NN := Nat.le_refl _
theorem aJP : yY NN = some true := by decide +kernel
theorem aKV {N : Nat} (hN : 70000 ≤ N) (l : List (List Int)) : vY N l 70 600 = some (!decide (70 < l.length) && l.all fun x => !decide (600 < (x.length : Int))) := by
 unfold vY
 by_cases hl : 70 < l.length
 ·rw [show decide ((70 : Int) < ((l.length : Nat) : Int)) = true from decide_eq_true (by omega),decide_eq_true hl]; rfl
 ·have := aAh (f := j5 N l 600) (xs := l) (p := fun x => !decide (600 < (x.length : Int))) (r := false) (fun m j hj => by
   rw [j5,dT hj,if_pos rfl,d8 l hj]
   simp only [Option.bind_some,i1 (show j ≤ 100000 by omega)]
   cases decide (600 < ((l[j].length : Nat) : Int)) <;> rfl) (fun m j hj => by rw [j5,dF (by omega)]; rfl) N 0 (by omega) (by omega)
  rw [show ((0 : Nat) : Int) = 0 from rfl,List.drop_zero] at this
  rw [show decide ((70 : Int) < ((l.length : Nat) : Int)) = false from decide_eq_false (by omega),decide_eq_false hl,this]
  cases l.all fun x => !decide (600 < (x.length : Int)) <;> rfl
theorem aJ8 {N : Nat} (hN : 70000 ≤ N) {m : List Int} (hm : m.length = 32) (hmb : Byt m) {b : List Int} (hbb : Byt b) {st : List (List Int)} (hst : ∀ x ∈ st,Byt x) (h a : Int) : (o6 N b st m h a).1.length ≤ 64 ∧ (o6 N b st m h a).2.1 ≤ 500 := by
 by_cases h0 : (o6 N b st m h a).2.2 = 0
 ·obtain ⟨_,_,_,_,g,_,e⟩ := aH9 hN hm hmb hbb hst h0
  rw [e]
  exact ⟨g.ws.len,g.c.2⟩
 ·unfold o6 at h0 ⊢
  split
  ·simp
  ·split
   ·simp
   ·split
    ·simp
    ·split
     ·rename_i h1 h2 h3 h4
      rw [if_neg h1,if_neg h2,if_neg h3,if_pos h4] at h0
      exact absurd rfl h0
     ·simp
theorem aDL (b : List Int) (w : List (List Int)) (m : List Int) (h a : Int) (hbb : Byt b) (hw : ∀ x ∈ w,Byt x) (hm : m.length = 32) (hmb : Byt m) : mB NN b w m h a = some true := by
 have hJ : fI NN b w m h a true = some true := rfl
 have hR : fI NN b w m h a false = some true := by
  have hl := (aJ8 aBp hm hmb hbb hw h a).1
  unfold fI
  simp only [Bool.false_eq_true,if_false,aHm aBp hm hmb hbb hw,aH8 aBp hm hmb hbb hw,aJx aBp hm hmb hbb hw,aMI aBp hm hmb hbb hw,Option.bind_some,beq_self_eq_true,if_true,aI5 aBp (show (o6 NN b w m h a).1.length ≤ 1000 by omega)]
  rfl
 unfold mB
 rw [aJP,aKV aBp]
 simp only [Option.bind_some,Bool.not_true,Bool.false_eq_true,if_false]
 split
 ·exact hJ
 ·cases (!(!decide (70 < w.length) && w.all fun x => !decide (600 < (x.length : Int))))
  ·exact hR
  ·exact hJ
theorem mixed : Tryz.prog.follows .mixedOrders = true := by kernel_rfl
theorem dep : 2 ≤ Tryz.prog.depth := Nat.le_of_ble_eq_true (by kernel_rfl)
instance : DepC Tryz.prog := ⟨dep⟩
instance : TiC Tryz.prog 2 ⟨.int .i64,1,8,.int .i64 0⟩ := ⟨ti2⟩
instance : NoA Tryz.prog 2 := ⟨trivial⟩
instance : TiC Tryz.prog 3 ⟨.int .i64,1,8,.int .i64 0⟩ := ⟨cT⟩
instance : NoA Tryz.prog 3 := ⟨trivial⟩
instance : TiC Tryz.prog 4 ⟨.bool,1,1,.bool false⟩ := ⟨yA⟩
instance : NoA Tryz.prog 4 := ⟨trivial⟩
instance : TiC Tryz.prog 5 ⟨.int .u8,1,1,.int .u8 0⟩ := ⟨cZ⟩
instance : NoA Tryz.prog 5 := ⟨trivial⟩
instance : TiC Tryz.prog 9 ⟨.string,1,16,.string .empty⟩ := ⟨ti9⟩
instance : NoA Tryz.prog 9 := ⟨trivial⟩
instance : TiC Tryz.prog 12 ⟨.int .u64,1,8,.int .u64 0⟩ := ⟨aOy⟩
instance : NoA Tryz.prog 12 := ⟨trivial⟩
instance : TiC Tryz.prog 21 ⟨.int .i32,1,4,.int .i32 0⟩ := ⟨aOW⟩
instance : NoA Tryz.prog 21 := ⟨trivial⟩
instance : TiC Tryz.prog 22 ⟨.slice 46,1,24,.slice none 0 0⟩ := ⟨aKy⟩
instance : NoA Tryz.prog 22 := ⟨trivial⟩
instance : TiC Tryz.prog 23 ⟨.slice 31,1,24,.slice none 0 0⟩ := ⟨yR⟩
instance : NoA Tryz.prog 23 := ⟨trivial⟩
instance : TiC Tryz.prog 24 ⟨.array 32 5,32,32,.agg #[.int .u8 0,.int .u8 0,.int .u8 0,.int .u8 0,.int .u8 0,.int .u8 0,.int .u8 0,.int .u8 0,.int .u8 0,.int .u8 0,.int .u8 0,.int .u8 0,.int .u8 0,.int .u8 0,.int .u8 0,.int .u8 0,.int .u8 0,.int .u8 0,.int .u8 0,.int .u8 0,.int .u8 0,.int .u8 0,.int .u8 0,.int .u8 0,.int .u8 0,.int .u8 0,.int .u8 0,.int .u8 0,.int .u8 0,.int .u8 0,.int .u8 0,.int .u8 0]⟩ := ⟨aOL⟩
instance : TiC Tryz.prog 25 ⟨.array 32 5,32,32,.agg #[.int .u8 0,.int .u8 0,.int .u8 0,.int .u8 0,.int .u8 0,.int .u8 0,.int .u8 0,.int .u8 0,.int .u8 0,.int .u8 0,.int .u8 0,.int .u8 0,.int .u8 0,.int .u8 0,.int .u8 0,.int .u8 0,.int .u8 0,.int .u8 0,.int .u8 0,.int .u8 0,.int .u8 0,.int .u8 0,.int .u8 0,.int .u8 0,.int .u8 0,.int .u8 0,.int .u8 0,.int .u8 0,.int .u8 0,.int .u8 0,.int .u8 0,.int .u8 0]⟩ := ⟨yO⟩
instance : TiC Tryz.prog 26 ⟨.struct #[{ name := "Message",type := 25,offset := 0,embedded := false,tag := "",pkgPath := "",byteOffset := 0 },{ name := "Height",type := 3,offset := 32,embedded := false,tag := "",pkgPath := "",byteOffset := 32 },{ name := "Age",type := 3,offset := 33,embedded := false,tag := "",pkgPath := "",byteOffset := 40 }],34,48,.agg #[.int .u8 0,.int .u8 0,.int .u8 0,.int .u8 0,.int .u8 0,.int .u8 0,.int .u8 0,.int .u8 0,.int .u8 0,.int .u8 0,.int .u8 0,.int .u8 0,.int .u8 0,.int .u8 0,.int .u8 0,.int .u8 0,.int .u8 0,.int .u8 0,.int .u8 0,.int .u8 0,.int .u8 0,.int .u8 0,.int .u8 0,.int .u8 0,.int .u8 0,.int .u8 0,.int .u8 0,.int .u8 0,.int .u8 0,.int .u8 0,.int .u8 0,.int .u8 0,.int .i64 0,.int .i64 0]⟩ := ⟨aPq⟩
instance : TiC Tryz.prog 27 ⟨.struct #[{ name := "Message",type := 25,offset := 0,embedded := false,tag := "",pkgPath := "",byteOffset := 0 },{ name := "Height",type := 3,offset := 32,embedded := false,tag := "",pkgPath := "",byteOffset := 32 },{ name := "Age",type := 3,offset := 33,embedded := false,tag := "",pkgPath := "",byteOffset := 40 }],34,48,.agg #[.int .u8 0,.int .u8 0,.int .u8 0,.int .u8 0,.int .u8 0,.int .u8 0,.int .u8 0,.int .u8 0,.int .u8 0,.int .u8 0,.int .u8 0,.int .u8 0,.int .u8 0,.int .u8 0,.int .u8 0,.int .u8 0,.int .u8 0,.int .u8 0,.int .u8 0,.int .u8 0,.int .u8 0,.int .u8 0,.int .u8 0,.int .u8 0,.int .u8 0,.int .u8 0,.int .u8 0,.int .u8 0,.int .u8 0,.int .u8 0,.int .u8 0,.int .u8 0,.int .i64 0,.int .i64 0]⟩ := ⟨aAc⟩
instance : TiC Tryz.prog 31 ⟨.slice 5,1,24,.slice none 0 0⟩ := ⟨cG⟩
instance : NoA Tryz.prog 31 := ⟨trivial⟩
instance : TiC Tryz.prog 32 ⟨.int .i64,1,8,.int .i64 0⟩ := ⟨aO8⟩
instance : NoA Tryz.prog 32 := ⟨trivial⟩
instance : TiC Tryz.prog 41 ⟨.int .u32,1,4,.int .u32 0⟩ := ⟨aCl⟩
instance : NoA Tryz.prog 41 := ⟨trivial⟩
instance : TiC Tryz.prog 45 ⟨.struct #[{ name := "Code",type := 3,offset := 0,embedded := false,tag := "",pkgPath := "",byteOffset := 0 },{ name := "Data",type := 31,offset := 1,embedded := false,tag := "",pkgPath := "",byteOffset := 8 },{ name := "M",type := 3,offset := 2,embedded := false,tag := "",pkgPath := "",byteOffset := 32 },{ name := "N",type := 3,offset := 3,embedded := false,tag := "",pkgPath := "",byteOffset := 40 }],4,48,.agg #[.int .i64 0,.slice none 0 0,.int .i64 0,.int .i64 0]⟩ := ⟨aOM⟩
instance : NoA Tryz.prog 45 := ⟨trivial⟩
instance : TiC Tryz.prog 46 ⟨.struct #[{ name := "Code",type := 3,offset := 0,embedded := false,tag := "",pkgPath := "",byteOffset := 0 },{ name := "Data",type := 31,offset := 1,embedded := false,tag := "",pkgPath := "",byteOffset := 8 },{ name := "M",type := 3,offset := 2,embedded := false,tag := "",pkgPath := "",byteOffset := 32 },{ name := "N",type := 3,offset := 3,embedded := false,tag := "",pkgPath := "",byteOffset := 40 }],4,48,.agg #[.int .i64 0,.slice none 0 0,.int .i64 0,.int .i64 0]⟩ := ⟨wM⟩
instance : NoA Tryz.prog 46 := ⟨trivial⟩
instance : TiC Tryz.prog 54 ⟨.slice 73,1,24,.slice none 0 0⟩ := ⟨aFf⟩
instance : NoA Tryz.prog 54 := ⟨trivial⟩
instance : TiC Tryz.prog 55 ⟨.struct #[{ name := "Env",type := 27,offset := 0,embedded := true,tag := "",pkgPath := "",byteOffset := 0 },{ name := "stack",type := 23,offset := 34,embedded := false,tag := "",pkgPath := "lightclient/script",byteOffset := 48 },{ name := "branches",type := 54,offset := 35,embedded := false,tag := "",pkgPath := "lightclient/script",byteOffset := 72 },{ name := "cost",type := 3,offset := 36,embedded := false,tag := "",pkgPath := "lightclient/script",byteOffset := 96 }],37,104,.agg #[.int .u8 0,.int .u8 0,.int .u8 0,.int .u8 0,.int .u8 0,.int .u8 0,.int .u8 0,.int .u8 0,.int .u8 0,.int .u8 0,.int .u8 0,.int .u8 0,.int .u8 0,.int .u8 0,.int .u8 0,.int .u8 0,.int .u8 0,.int .u8 0,.int .u8 0,.int .u8 0,.int .u8 0,.int .u8 0,.int .u8 0,.int .u8 0,.int .u8 0,.int .u8 0,.int .u8 0,.int .u8 0,.int .u8 0,.int .u8 0,.int .u8 0,.int .u8 0,.int .i64 0,.int .i64 0,.slice none 0 0,.slice none 0 0,.int .i64 0]⟩ := ⟨aPe⟩
instance : TiC Tryz.prog 56 ⟨.struct #[{ name := "Env",type := 27,offset := 0,embedded := true,tag := "",pkgPath := "",byteOffset := 0 },{ name := "stack",type := 23,offset := 34,embedded := false,tag := "",pkgPath := "lightclient/script",byteOffset := 48 },{ name := "branches",type := 54,offset := 35,embedded := false,tag := "",pkgPath := "lightclient/script",byteOffset := 72 },{ name := "cost",type := 3,offset := 36,embedded := false,tag := "",pkgPath := "lightclient/script",byteOffset := 96 }],37,104,.agg #[.int .u8 0,.int .u8 0,.int .u8 0,.int .u8 0,.int .u8 0,.int .u8 0,.int .u8 0,.int .u8 0,.int .u8 0,.int .u8 0,.int .u8 0,.int .u8 0,.int .u8 0,.int .u8 0,.int .u8 0,.int .u8 0,.int .u8 0,.int .u8 0,.int .u8 0,.int .u8 0,.int .u8 0,.int .u8 0,.int .u8 0,.int .u8 0,.int .u8 0,.int .u8 0,.int .u8 0,.int .u8 0,.int .u8 0,.int .u8 0,.int .u8 0,.int .u8 0,.int .i64 0,.int .i64 0,.slice none 0 0,.slice none 0 0,.int .i64 0]⟩ := ⟨v7⟩
instance : TiC Tryz.prog 57 ⟨.slice 60,1,24,.slice none 0 0⟩ := ⟨aKT⟩
instance : NoA Tryz.prog 57 := ⟨trivial⟩
instance : TiC Tryz.prog 59 ⟨.struct #[{ name := "reached",type := 4,offset := 0,embedded := false,tag := "",pkgPath := "lightclient/lightclientref08",byteOffset := 0 },{ name := "done",type := 4,offset := 1,embedded := false,tag := "",pkgPath := "lightclient/lightclientref08",byteOffset := 1 }],2,2,.agg #[.bool false,.bool false]⟩ := ⟨aO3⟩
instance : NoA Tryz.prog 59 := ⟨trivial⟩
instance : TiC Tryz.prog 60 ⟨.struct #[{ name := "reached",type := 4,offset := 0,embedded := false,tag := "",pkgPath := "lightclient/lightclientref08",byteOffset := 0 },{ name := "done",type := 4,offset := 1,embedded := false,tag := "",pkgPath := "lightclient/lightclientref08",byteOffset := 1 }],2,2,.agg #[.bool false,.bool false]⟩ := ⟨aDc⟩
instance : NoA Tryz.prog 60 := ⟨trivial⟩
instance : TiC Tryz.prog 66 ⟨.int .u64,1,8,.int .u64 0⟩ := ⟨aOV⟩
instance : NoA Tryz.prog 66 := ⟨trivial⟩
instance : TiC Tryz.prog 70 ⟨.slice 4,1,24,.slice none 0 0⟩ := ⟨aKM⟩
instance : NoA Tryz.prog 70 := ⟨trivial⟩
instance : TiC Tryz.prog 71 ⟨.pointer 56,1,8,.pointer none⟩ := ⟨aOG⟩
instance : NoA Tryz.prog 71 := ⟨trivial⟩
instance : TiC Tryz.prog 72 ⟨.struct #[{ name := "outer",type := 4,offset := 0,embedded := false,tag := "",pkgPath := "lightclient/script",byteOffset := 0 },{ name := "taken",type := 4,offset := 1,embedded := false,tag := "",pkgPath := "lightclient/script",byteOffset := 1 }],2,2,.agg #[.bool false,.bool false]⟩ := ⟨aPB⟩
instance : NoA Tryz.prog 72 := ⟨trivial⟩
instance : TiC Tryz.prog 73 ⟨.struct #[{ name := "outer",type := 4,offset := 0,embedded := false,tag := "",pkgPath := "lightclient/script",byteOffset := 0 },{ name := "taken",type := 4,offset := 1,embedded := false,tag := "",pkgPath := "lightclient/script",byteOffset := 1 }],2,2,.agg #[.bool false,.bool false]⟩ := ⟨aA9⟩
instance : NoA Tryz.prog 73 := ⟨trivial⟩
instance : TiC Tryz.prog 90 ⟨.int .u64,1,8,.int .u64 0⟩ := ⟨j7⟩
instance : NoA Tryz.prog 90 := ⟨trivial⟩
instance : TiC Tryz.prog 91 ⟨.array 8 41,8,32,.agg #[.int .u32 0,.int .u32 0,.int .u32 0,.int .u32 0,.int .u32 0,.int .u32 0,.int .u32 0,.int .u32 0]⟩ := ⟨aFa⟩
instance : TiC Tryz.prog 93 ⟨.array 64 5,64,64,.agg #[.int .u8 0,.int .u8 0,.int .u8 0,.int .u8 0,.int .u8 0,.int .u8 0,.int .u8 0,.int .u8 0,.int .u8 0,.int .u8 0,.int .u8 0,.int .u8 0,.int .u8 0,.int .u8 0,.int .u8 0,.int .u8 0,.int .u8 0,.int .u8 0,.int .u8 0,.int .u8 0,.int .u8 0,.int .u8 0,.int .u8 0,.int .u8 0,.int .u8 0,.int .u8 0,.int .u8 0,.int .u8 0,.int .u8 0,.int .u8 0,.int .u8 0,.int .u8 0,.int .u8 0,.int .u8 0,.int .u8 0,.int .u8 0,.int .u8 0,.int .u8 0,.int .u8 0,.int .u8 0,.int .u8 0,.int .u8 0,.int .u8 0,.int .u8 0,.int .u8 0,.int .u8 0,.int .u8 0,.int .u8 0,.int .u8 0,.int .u8 0,.int .u8 0,.int .u8 0,.int .u8 0,.int .u8 0,.int .u8 0,.int .u8 0,.int .u8 0,.int .u8 0,.int .u8 0,.int .u8 0,.int .u8 0,.int .u8 0,.int .u8 0,.int .u8 0]⟩ := ⟨aKv⟩
instance : TiC Tryz.prog 95 ⟨.array 4 90,4,32,.agg #[.int .u64 0,.int .u64 0,.int .u64 0,.int .u64 0]⟩ := ⟨aPy⟩
instance : TiC Tryz.prog 96 ⟨.array 4 90,4,32,.agg #[.int .u64 0,.int .u64 0,.int .u64 0,.int .u64 0]⟩ := ⟨bV⟩
instance : TiC Tryz.prog 99 ⟨.struct #[{ name := "E",type := 96,offset := 0,embedded := false,tag := "",pkgPath := "",byteOffset := 0 },{ name := "S",type := 96,offset := 4,embedded := false,tag := "",pkgPath := "",byteOffset := 32 }],8,64,.agg #[.int .u64 0,.int .u64 0,.int .u64 0,.int .u64 0,.int .u64 0,.int .u64 0,.int .u64 0,.int .u64 0]⟩ := ⟨aPc⟩
instance : TiC Tryz.prog 100 ⟨.struct #[{ name := "E",type := 96,offset := 0,embedded := false,tag := "",pkgPath := "",byteOffset := 0 },{ name := "S",type := 96,offset := 4,embedded := false,tag := "",pkgPath := "",byteOffset := 32 }],8,64,.agg #[.int .u64 0,.int .u64 0,.int .u64 0,.int .u64 0,.int .u64 0,.int .u64 0,.int .u64 0,.int .u64 0]⟩ := ⟨nO⟩
instance : TiC Tryz.prog 105 ⟨.array 64 41,64,256,.agg #[.int .u32 0,.int .u32 0,.int .u32 0,.int .u32 0,.int .u32 0,.int .u32 0,.int .u32 0,.int .u32 0,.int .u32 0,.int .u32 0,.int .u32 0,.int .u32 0,.int .u32 0,.int .u32 0,.int .u32 0,.int .u32 0,.int .u32 0,.int .u32 0,.int .u32 0,.int .u32 0,.int .u32 0,.int .u32 0,.int .u32 0,.int .u32 0,.int .u32 0,.int .u32 0,.int .u32 0,.int .u32 0,.int .u32 0,.int .u32 0,.int .u32 0,.int .u32 0,.int .u32 0,.int .u32 0,.int .u32 0,.int .u32 0,.int .u32 0,.int .u32 0,.int .u32 0,.int .u32 0,.int .u32 0,.int .u32 0,.int .u32 0,.int .u32 0,.int .u32 0,.int .u32 0,.int .u32 0,.int .u32 0,.int .u32 0,.int .u32 0,.int .u32 0,.int .u32 0,.int .u32 0,.int .u32 0,.int .u32 0,.int .u32 0,.int .u32 0,.int .u32 0,.int .u32 0,.int .u32 0,.int .u32 0,.int .u32 0,.int .u32 0,.int .u32 0]⟩ := ⟨aIA⟩
instance : TiC Tryz.prog 131 ⟨.array 8 90,8,64,.agg #[.int .u64 0,.int .u64 0,.int .u64 0,.int .u64 0,.int .u64 0,.int .u64 0,.int .u64 0,.int .u64 0]⟩ := ⟨aCE⟩
instance : TiC Tryz.prog 133 ⟨.slice 90,1,24,.slice none 0 0⟩ := ⟨aI2⟩
instance : NoA Tryz.prog 133 := ⟨trivial⟩
instance : TiC Tryz.prog 135 ⟨.slice 25,1,24,.slice none 0 0⟩ := ⟨aLw⟩
instance : NoA Tryz.prog 135 := ⟨trivial⟩
instance : TiC Tryz.prog 148 ⟨.pointer 5,1,8,.pointer none⟩ := ⟨aN0⟩
instance : NoA Tryz.prog 148 := ⟨trivial⟩
theorem aLH (b off : Nat) : aU Tryz.prog 27 (.ptr b off) 0 = some (.ptr b (off + 0)) := by simp [aU,aAc,yO]
theorem aLZ (es : List V) (i off : Nat) : aU Tryz.prog 27 (.eptr es i off) 0 = some (.eptr es i (off + 0)) := by simp [aU,aAc,yO]
instance : FaC Tryz.prog 27 0 0 := ⟨aLH,aLZ⟩
theorem aMH (b off : Nat) : aU Tryz.prog 27 (.ptr b off) 1 = some (.ptr b (off + 32)) := by simp [aU,aAc,cT]
theorem aMn (es : List V) (i off : Nat) : aU Tryz.prog 27 (.eptr es i off) 1 = some (.eptr es i (off + 32)) := by simp [aU,aAc,cT]
instance : FaC Tryz.prog 27 1 32 := ⟨aMH,aMn⟩
theorem aLS (b off : Nat) : aU Tryz.prog 27 (.ptr b off) 2 = some (.ptr b (off + 33)) := by simp [aU,aAc,cT]
theorem aMw (es : List V) (i off : Nat) : aU Tryz.prog 27 (.eptr es i off) 2 = some (.eptr es i (off + 33)) := by simp [aU,aAc,cT]
instance : FaC Tryz.prog 27 2 33 := ⟨aLS,aMw⟩
theorem aIm (b off : Nat) : aU Tryz.prog 46 (.ptr b off) 0 = some (.ptr b (off + 0)) := by simp [aU,wM,cT]
theorem aMP (es : List V) (i off : Nat) : aU Tryz.prog 46 (.eptr es i off) 0 = some (.eptr es i (off + 0)) := by simp [aU,wM,cT]
instance : FaC Tryz.prog 46 0 0 := ⟨aIm,aMP⟩
theorem aEY (b off : Nat) : aU Tryz.prog 46 (.ptr b off) 1 = some (.ptr b (off + 1)) := by simp [aU,wM,cG]
theorem aLD (es : List V) (i off : Nat) : aU Tryz.prog 46 (.eptr es i off) 1 = some (.eptr es i (off + 1)) := by simp [aU,wM,cG]
instance : FaC Tryz.prog 46 1 1 := ⟨aEY,aLD⟩
theorem aFi (b off : Nat) : aU Tryz.prog 46 (.ptr b off) 2 = some (.ptr b (off + 2)) := by simp [aU,wM,cT]
theorem aLK (es : List V) (i off : Nat) : aU Tryz.prog 46 (.eptr es i off) 2 = some (.eptr es i (off + 2)) := by simp [aU,wM,cT]
instance : FaC Tryz.prog 46 2 2 := ⟨aFi,aLK⟩
theorem gR (b off : Nat) : aU Tryz.prog 46 (.ptr b off) 3 = some (.ptr b (off + 3)) := by simp [aU,wM,cT]
theorem aMf (es : List V) (i off : Nat) : aU Tryz.prog 46 (.eptr es i off) 3 = some (.eptr es i (off + 3)) := by simp [aU,wM,cT]
instance : FaC Tryz.prog 46 3 3 := ⟨gR,aMf⟩
theorem aMO (b off : Nat) : aU Tryz.prog 56 (.ptr b off) 0 = some (.ptr b (off + 0)) := by simp [aU,v7,aAc]
theorem aLQ (es : List V) (i off : Nat) : aU Tryz.prog 56 (.eptr es i off) 0 = some (.eptr es i (off + 0)) := by simp [aU,v7,aAc]
instance : FaC Tryz.prog 56 0 0 := ⟨aMO,aLQ⟩
theorem aMJ (b off : Nat) : aU Tryz.prog 56 (.ptr b off) 1 = some (.ptr b (off + 34)) := by simp [aU,v7,yR]
theorem aMq (es : List V) (i off : Nat) : aU Tryz.prog 56 (.eptr es i off) 1 = some (.eptr es i (off + 34)) := by simp [aU,v7,yR]
instance : FaC Tryz.prog 56 1 34 := ⟨aMJ,aMq⟩
theorem aLO (b off : Nat) : aU Tryz.prog 56 (.ptr b off) 2 = some (.ptr b (off + 35)) := by simp [aU,v7,aFf]
theorem aMx (es : List V) (i off : Nat) : aU Tryz.prog 56 (.eptr es i off) 2 = some (.eptr es i (off + 35)) := by simp [aU,v7,aFf]
instance : FaC Tryz.prog 56 2 35 := ⟨aLO,aMx⟩
theorem aMe (b off : Nat) : aU Tryz.prog 56 (.ptr b off) 3 = some (.ptr b (off + 36)) := by simp [aU,v7,cT]
theorem aMN (es : List V) (i off : Nat) : aU Tryz.prog 56 (.eptr es i off) 3 = some (.eptr es i (off + 36)) := by simp [aU,v7,cT]
instance : FaC Tryz.prog 56 3 36 := ⟨aMe,aMN⟩
theorem aL8 (b off : Nat) : aU Tryz.prog 60 (.ptr b off) 0 = some (.ptr b (off + 0)) := by simp [aU,aDc,yA]
theorem aMu (es : List V) (i off : Nat) : aU Tryz.prog 60 (.eptr es i off) 0 = some (.eptr es i (off + 0)) := by simp [aU,aDc,yA]
instance : FaC Tryz.prog 60 0 0 := ⟨aL8,aMu⟩
theorem aMy (b off : Nat) : aU Tryz.prog 60 (.ptr b off) 1 = some (.ptr b (off + 1)) := by simp [aU,aDc,yA]
theorem aLG (es : List V) (i off : Nat) : aU Tryz.prog 60 (.eptr es i off) 1 = some (.eptr es i (off + 1)) := by simp [aU,aDc,yA]
instance : FaC Tryz.prog 60 1 1 := ⟨aMy,aLG⟩
theorem aME (b off : Nat) : aU Tryz.prog 73 (.ptr b off) 0 = some (.ptr b (off + 0)) := by simp [aU,aA9,yA]
theorem aMG (es : List V) (i off : Nat) : aU Tryz.prog 73 (.eptr es i off) 0 = some (.eptr es i (off + 0)) := by simp [aU,aA9,yA]
instance : FaC Tryz.prog 73 0 0 := ⟨aME,aMG⟩
theorem aMc (b off : Nat) : aU Tryz.prog 73 (.ptr b off) 1 = some (.ptr b (off + 1)) := by simp [aU,aA9,yA]
theorem aL4 (es : List V) (i off : Nat) : aU Tryz.prog 73 (.eptr es i off) 1 = some (.eptr es i (off + 1)) := by simp [aU,aA9,yA]
instance : FaC Tryz.prog 73 1 1 := ⟨aMc,aL4⟩
theorem aKx (b off : Nat) : aU Tryz.prog 100 (.ptr b off) 0 = some (.ptr b (off + 0)) := by simp [aU,nO,bV]
theorem aJ5 (es : List V) (i off : Nat) : aU Tryz.prog 100 (.eptr es i off) 0 = some (.eptr es i (off + 0)) := by simp [aU,nO,bV]
instance : FaC Tryz.prog 100 0 0 := ⟨aKx,aJ5⟩
theorem aKI (b off : Nat) : aU Tryz.prog 100 (.ptr b off) 1 = some (.ptr b (off + 4)) := by simp [aU,nO,bV]
theorem aKQ (es : List V) (i off : Nat) : aU Tryz.prog 100 (.eptr es i off) 1 = some (.eptr es i (off + 4)) := by simp [aU,nO,bV]
instance : FaC Tryz.prog 100 1 4 := ⟨aKI,aKQ⟩
theorem aNm : oN Tryz.prog 27 = some #[(0,32),(32,1),(33,1)] := by kernel_rfl
instance : PlC Tryz.prog 27 #[(0,32),(32,1),(33,1)] := ⟨aNm⟩
theorem aOC : oN Tryz.prog 46 = some #[(0,1),(1,1),(2,1),(3,1)] := by kernel_rfl
instance : PlC Tryz.prog 46 #[(0,1),(1,1),(2,1),(3,1)] := ⟨aOC⟩
theorem aK9 : oN Tryz.prog 56 = some #[(0,34),(34,1),(35,1),(36,1)] := by kernel_rfl
instance : PlC Tryz.prog 56 #[(0,34),(34,1),(35,1),(36,1)] := ⟨aK9⟩
theorem aPf : oN Tryz.prog 60 = some #[(0,1),(1,1)] := by kernel_rfl
instance : PlC Tryz.prog 60 #[(0,1),(1,1)] := ⟨aPf⟩
theorem aOH : oN Tryz.prog 73 = some #[(0,1),(1,1)] := by kernel_rfl
instance : PlC Tryz.prog 73 #[(0,1),(1,1)] := ⟨aOH⟩
theorem aBv : oN Tryz.prog 100 = some #[(0,4),(4,4)] := by kernel_rfl
instance : PlC Tryz.prog 100 #[(0,4),(4,4)] := ⟨aBv⟩
theorem zH {p : Prop} (h : p := by (simp only [iG,dN,gL,m7,Blk.rn,V.rns,V.rn,sg,List.map_cons,List.map_nil,Option.map_some,Option.map_none,List.drop_succ_cons,List.drop_zero,List.drop_nil,List.set_cons_zero,List.set_cons_succ,List.cons_append,List.nil_append,List.append_nil,g7,gZ,sL,r6,f8,gE,cP,cQ,bQ,bP,pI,pG,mI,l8,mU,pB,mH,List.getElem?_cons_zero,List.getElem?_cons_succ,List.getElem?_nil,List.length_cons,List.length_nil,Nat.reduceAdd,Nat.reduceSub,Nat.add_zero,Nat.zero_add,Nat.sub_self,Nat.sub_zero] <;> rfl)) : p := h
theorem zB {f : FuncId} {hs hs' hb hb' : Hp} {args xs : List V} {r v : V} (hc : Vm.Fn Tryz.prog f hs args r hs') (ρ : List Nat) (hnd : ρ.Nodup := by decide) (hlt : ρ.all (fun b => Nat.blt b hb.length) = true := by rfl)
  (hl : Lend (sg ρ hb.length) hb ρ hs := by repeat (first | exact Lend.nil | refine Lend.cons rfl rfl ?_ | refine Lend.cons rfl (l6 (fun _ => rfl) _) ?_ | refine Lend.cons rfl (i8 (fun _ => rfl) _) ?_)) (hx : V.rns (sg ρ hb.length) args = xs := by first | rfl | (simp only [V.rn,V.rns,g7,gZ] <;> rfl)) (hr : r.rn (sg ρ hb.length) = v := by first | rfl | (simp only [V.rn,V.rns,g7,gZ] <;> rfl)) (hh : iG hb ρ hs' = hb' := by (simp only [iG,dN,gL,m7,Blk.rn,V.rns,V.rn,sg,List.map_cons,List.map_nil,Option.map_some,Option.map_none,List.drop_succ_cons,List.drop_zero,List.drop_nil,List.set_cons_zero,List.set_cons_succ,List.cons_append,List.nil_append,List.append_nil,g7,gZ,sL,r6,f8,gE,cP,cQ,bQ,bP,pI,pG,mI,l8,mU,pB,mH,List.getElem?_cons_zero,List.getElem?_cons_succ,List.getElem?_nil,List.length_cons,List.length_nil,Nat.reduceAdd,Nat.reduceSub,Nat.add_zero,Nat.zero_add,Nat.sub_self,Nat.sub_zero] <;> rfl)) : Vm.Fn Tryz.prog f hb xs v hb' := Vm.Fn.lendB hc ρ hnd hlt hl hx hr hh
theorem zL {f : FuncId} {hs hs' hb hb' : Hp} {args xs : List V} {r v : V} (hc : Vm.Fn Tryz.prog f hs args r hs') (ρ β : List Nat) (hnd : ρ.Nodup := by decide) (hlt : ρ.all (fun b => Nat.blt b hb.length) = true := by rfl) (hdis : ∀ b ∈ β,b ∉ ρ := by decide)
  (hl : Lend (sg ρ hb.length) hb ρ hs := by repeat (first | exact Lend.nil | refine Lend.cons rfl rfl ?_ | refine Lend.cons rfl (l6 (fun _ => rfl) _) ?_ | refine Lend.cons rfl (i8 (fun _ => rfl) _) ?_))
  (hx : Brw (sg ρ hb.length) (only β hb) xs args := by repeat (first | exact Brw.nil | refine Brw.same rfl ?_ | refine Brw.row (aEE rfl rfl (fun _ => rfl)) ?_ | refine Brw.same (by simp only [V.rn,V.rns,g7,gZ]) ?_))
  (hrf : r.rf = true := by first | rfl | simp [V.rf,V.rfs,aGm,aGO]) (hrb : rfB hs' := by repeat (first | exact rfB.nil | refine rfB.dead ?_ | refine rfB.live rfl ?_ | refine rfB.live (zD (fun _ => rfl) _) ?_ | refine rfB.live (rfs_flat (fun _ => rfl) _) ?_))
  (hr : r.rn (sg ρ hb.length) = v := by first | rfl | (simp only [V.rn,V.rns,g7,gZ] <;> rfl)) (hh : iG hb ρ hs' = hb' := by simp only [iG,dN,gL,m7,Blk.rn,V.rns,V.rn,sg,List.map_cons,List.map_nil,Option.map_some,Option.map_none,List.drop_succ_cons,List.drop_zero,List.drop_nil,List.set_cons_zero,List.set_cons_succ,List.cons_append,List.nil_append,List.append_nil,g7,gZ,sL,r6,f8,gE,cP,cQ,bQ,bP,pI,pG,mI,l8,mU,pB,mH,List.getElem?_cons_zero,List.getElem?_cons_succ,List.getElem?_nil,List.length_cons,List.length_nil,Nat.reduceAdd,Nat.reduceSub,Nat.add_zero,Nat.zero_add,Nat.sub_self,Nat.sub_zero]) : Vm.Fn Tryz.prog f hb xs v hb' := Vm.Fn.lendR hc ρ β hnd hlt hdis hl hx hrf hrb hr hh
theorem zc {f : FuncId} {hb : Hp} {args xs : List V} {r : V} {N n t : Nat} {ops : Array Oper} {l : List Oper} {fr : List (Nat × V)} {K : List V → Hp → Prop} {ty : TypeId} {pos : String} {aft : Array Edge} {ws : List Operand} {ts : Array TypeId} {hs hs' hb' : Hp} {v : V} (hc : Vm.Fn Tryz.prog f hs args r hs') (ρ : List Nat) (k : OpsX Tryz.prog N none ops l (aE n ((t,v) :: fr)) hb' K) (hw : pC n fr ws = some xs := by rfl) (hnd : ρ.Nodup := by decide) (hlt : ρ.all (fun b => Nat.blt b hb.length) = true := by rfl) (hl : Lend (sg ρ hb.length) hb ρ hs := by repeat (first | exact Lend.nil | refine Lend.cons rfl rfl ?_ | refine Lend.cons rfl (l6 (fun _ => rfl) _) ?_ | refine Lend.cons rfl (i8 (fun _ => rfl) _) ?_)) (hx : V.les v9 xs (V.rns (sg ρ hb.length) args) := by repeat (first | exact V.les_refl _ _ | exact V.les_nil | apply V.les_cons | exact V.le_refl _ _ | exact V.le_nil | exact V.le_row | exact V.le_arr (fun _ => rfl) | apply V.le_agg)) (hr : r.rn (sg ρ hb.length) = v := by (simp only [iG,dN,gL,m7,Blk.rn,V.rns,V.rn,sg,List.map_cons,List.map_nil,Option.map_some,Option.map_none,List.drop_succ_cons,List.drop_zero,List.drop_nil,List.set_cons_zero,List.set_cons_succ,List.cons_append,List.nil_append,List.append_nil,g7,gZ,sL,r6,f8,gE,cP,cQ,bQ,bP,pI,pG,mI,l8,mU,pB,mH,List.getElem?_cons_zero,List.getElem?_cons_succ,List.getElem?_nil,List.length_cons,List.length_nil,Nat.reduceAdd,Nat.reduceSub,Nat.add_zero,Nat.zero_add,Nat.sub_self,Nat.sub_zero] <;> rfl)) (hh : iG hb ρ hs' = hb' := by (simp only [iG,dN,gL,m7,Blk.rn,V.rns,V.rn,sg,List.map_cons,List.map_nil,Option.map_some,Option.map_none,List.drop_succ_cons,List.drop_zero,List.drop_nil,List.set_cons_zero,List.set_cons_succ,List.cons_append,List.nil_append,List.append_nil,g7,gZ,sL,r6,f8,gE,cP,cQ,bQ,bP,pI,pG,mI,l8,mU,pB,mH,List.getElem?_cons_zero,List.getElem?_cons_succ,List.getElem?_nil,List.length_cons,List.length_nil,Nat.reduceAdd,Nat.reduceSub,Nat.add_zero,Nat.zero_add,Nat.sub_self,Nat.sub_zero] <;> rfl)) : OpsX Tryz.prog N none ops (⟨some t,.call ⟨.value (.func f),ws.toArray,ts⟩,ty,pos,aft,none⟩ :: l) (aE n fr) hb K := xC hw (Vm.Fn.argsLe (Vm.Fn.lendB hc ρ hnd hlt hl rfl hr hh) hx) k
theorem zcL {f : FuncId} {hb : Hp} {args xs : List V} {r : V} {N n t : Nat} {ops : Array Oper} {l : List Oper} {fr : List (Nat × V)} {K : List V → Hp → Prop} {ty : TypeId} {pos : String} {aft : Array Edge} {ws : List Operand} {ts : Array TypeId} {hs hs' hb' : Hp} {v : V} (hc : Vm.Fn Tryz.prog f hs args r hs') (ρ β : List Nat) (k : OpsX Tryz.prog N none ops l (aE n ((t,v) :: fr)) hb' K) (hw : pC n fr ws = some xs := by rfl) (hnd : ρ.Nodup := by decide) (hlt : ρ.all (fun b => Nat.blt b hb.length) = true := by rfl) (hdis : ∀ b ∈ β,b ∉ ρ := by decide) (hl : Lend (sg ρ hb.length) hb ρ hs := by repeat (first | exact Lend.nil | refine Lend.cons rfl rfl ?_ | refine Lend.cons rfl (l6 (fun _ => rfl) _) ?_ | refine Lend.cons rfl (i8 (fun _ => rfl) _) ?_)) (hx : Brw (sg ρ hb.length) (only β hb) xs args := by repeat (first | exact Brw.nil | refine Brw.same rfl ?_ | refine Brw.row (aEE (by first | exact rfl | (simp only [bK,bJ]; done) | exact aV (by assumption) | exact bW (by assumption)) rfl (fun _ => rfl)) ?_ | refine Brw.row (aHz (fun _ => rfl) zl (by first | exact rfl | (simp only [bK,bJ]; done) | exact aV (by assumption) | exact bW (by assumption)) rfl (fun _ => rfl)) ?_ | refine Brw.same (by simp only [V.rn,V.rns,g7,gZ]) ?_ | refine Brw.le V.le_nil ?_ | refine Brw.le V.le_row ?_)) (hrf : r.rf = true := by first | rfl | simp [V.rf,V.rfs,aGm,aGO]) (hrb : rfB hs' := by repeat (first | exact rfB.nil | refine rfB.dead ?_ | refine rfB.live rfl ?_ | refine rfB.live (zD (fun _ => rfl) _) ?_ | refine rfB.live (rfs_flat (fun _ => rfl) _) ?_)) (hr : r.rn (sg ρ hb.length) = v := by (simp only [iG,dN,gL,m7,Blk.rn,V.rns,V.rn,sg,List.map_cons,List.map_nil,Option.map_some,Option.map_none,List.drop_succ_cons,List.drop_zero,List.drop_nil,List.set_cons_zero,List.set_cons_succ,List.cons_append,List.nil_append,List.append_nil,g7,gZ,sL,r6,f8,gE,cP,cQ,bQ,bP,pI,pG,mI,l8,mU,pB,mH,List.getElem?_cons_zero,List.getElem?_cons_succ,List.getElem?_nil,List.length_cons,List.length_nil,Nat.reduceAdd,Nat.reduceSub,Nat.add_zero,Nat.zero_add,Nat.sub_self,Nat.sub_zero] <;> rfl)) (hh : iG hb ρ hs' = hb' := by (simp only [iG,dN,gL,m7,Blk.rn,V.rns,V.rn,sg,List.map_cons,List.map_nil,Option.map_some,Option.map_none,List.drop_succ_cons,List.drop_zero,List.drop_nil,List.set_cons_zero,List.set_cons_succ,List.cons_append,List.nil_append,List.append_nil,g7,gZ,sL,r6,f8,gE,cP,cQ,bQ,bP,pI,pG,mI,l8,mU,pB,mH,List.getElem?_cons_zero,List.getElem?_cons_succ,List.getElem?_nil,List.length_cons,List.length_nil,Nat.reduceAdd,Nat.reduceSub,Nat.add_zero,Nat.zero_add,Nat.sub_self,Nat.sub_zero] <;> rfl)) : OpsX Tryz.prog N none ops (⟨some t,.call ⟨.value (.func f),ws.toArray,ts⟩,ty,pos,aft,none⟩ :: l) (aE n fr) hb K := xC hw (Vm.Fn.lendR hc ρ β hnd hlt hdis hl hx hrf hrb hr hh) k
theorem zg {f : FuncId} {hb : Hp} {args xs : List V} {r : V} {N n t : Nat} {ops : Array Oper} {l : List Oper} {fr : List (Nat × V)} {K : List V → Hp → Prop} {ty : TypeId} {pos : String} {aft : Array Edge} {ws : List Operand} {ts : Array TypeId} {hs hs' hb' : Hp} {v : V} {F G : List Nat} {gd : Option (Nat × Bool)} (hc : Vm.Fn Tryz.prog f hs args r hs') (ρ : List Nat) (k : OpsX Tryz.prog N (some (F,G)) ops l (aE n ((t,v) :: fr)) hb' K) (hw : pC n fr ws = some xs := by rfl) (hnd : ρ.Nodup := by decide) (hlt : ρ.all (fun b => Nat.blt b hb.length) = true := by rfl) (hl : Lend (sg ρ hb.length) hb ρ hs := by repeat (first | exact Lend.nil | refine Lend.cons rfl rfl ?_ | refine Lend.cons rfl (l6 (fun _ => rfl) _) ?_ | refine Lend.cons rfl (i8 (fun _ => rfl) _) ?_)) (hx : V.les v9 xs (V.rns (sg ρ hb.length) args) := by repeat (first | exact V.les_refl _ _ | exact V.les_nil | apply V.les_cons | exact V.le_refl _ _ | exact V.le_nil | exact V.le_row | exact V.le_arr (fun _ => rfl) | apply V.le_agg)) (hr : r.rn (sg ρ hb.length) = v := by (simp only [iG,dN,gL,m7,Blk.rn,V.rns,V.rn,sg,List.map_cons,List.map_nil,Option.map_some,Option.map_none,List.drop_succ_cons,List.drop_zero,List.drop_nil,List.set_cons_zero,List.set_cons_succ,List.cons_append,List.nil_append,List.append_nil,g7,gZ,sL,r6,f8,gE,cP,cQ,bQ,bP,pI,pG,mI,l8,mU,pB,mH,List.getElem?_cons_zero,List.getElem?_cons_succ,List.getElem?_nil,List.length_cons,List.length_nil,Nat.reduceAdd,Nat.reduceSub,Nat.add_zero,Nat.zero_add,Nat.sub_self,Nat.sub_zero] <;> rfl)) (hh : iG hb ρ hs' = hb' := by (simp only [iG,dN,gL,m7,Blk.rn,V.rns,V.rn,sg,List.map_cons,List.map_nil,Option.map_some,Option.map_none,List.drop_succ_cons,List.drop_zero,List.drop_nil,List.set_cons_zero,List.set_cons_succ,List.cons_append,List.nil_append,List.append_nil,g7,gZ,sL,r6,f8,gE,cP,cQ,bQ,bP,pI,pG,mI,l8,mU,pB,mH,List.getElem?_cons_zero,List.getElem?_cons_succ,List.getElem?_nil,List.length_cons,List.length_nil,Nat.reduceAdd,Nat.reduceSub,Nat.add_zero,Nat.zero_add,Nat.sub_self,Nat.sub_zero] <;> rfl)) (hF : eC F f = false := by rfl) (hG : eC G f = true → ∃ news,hb' = hb ++ news := by first | exact (fun _ => ⟨_,rfl⟩) | exact (fun _ => ⟨[],(List.append_nil _).symm⟩) | exact (fun h => absurd h (by decide))) (hg : Gd ops n fr gd := by exact gD) : OpsX Tryz.prog N (some (F,G)) ops (⟨some t,.call ⟨.value (.func f),ws.toArray,ts⟩,ty,pos,aft,gd⟩ :: l) (aE n fr) hb K := xG hw (Vm.Fn.argsLe (Vm.Fn.lendB hc ρ hnd hlt hl rfl hr hh) hx) k hF hG hg
theorem zgL {f : FuncId} {hb : Hp} {args xs : List V} {r : V} {N n t : Nat} {ops : Array Oper} {l : List Oper} {fr : List (Nat × V)} {K : List V → Hp → Prop} {ty : TypeId} {pos : String} {aft : Array Edge} {ws : List Operand} {ts : Array TypeId} {hs hs' hb' : Hp} {v : V} {F G : List Nat} {gd : Option (Nat × Bool)} (hc : Vm.Fn Tryz.prog f hs args r hs') (ρ β : List Nat) (k : OpsX Tryz.prog N (some (F,G)) ops l (aE n ((t,v) :: fr)) hb' K) (hw : pC n fr ws = some xs := by rfl) (hnd : ρ.Nodup := by decide) (hlt : ρ.all (fun b => Nat.blt b hb.length) = true := by rfl) (hdis : ∀ b ∈ β,b ∉ ρ := by decide) (hl : Lend (sg ρ hb.length) hb ρ hs := by repeat (first | exact Lend.nil | refine Lend.cons rfl rfl ?_ | refine Lend.cons rfl (l6 (fun _ => rfl) _) ?_ | refine Lend.cons rfl (i8 (fun _ => rfl) _) ?_)) (hx : Brw (sg ρ hb.length) (only β hb) xs args := by repeat (first | exact Brw.nil | refine Brw.same rfl ?_ | refine Brw.row (aEE (by first | exact rfl | (simp only [bK,bJ]; done) | exact aV (by assumption) | exact bW (by assumption)) rfl (fun _ => rfl)) ?_ | refine Brw.row (aHz (fun _ => rfl) zl (by first | exact rfl | (simp only [bK,bJ]; done) | exact aV (by assumption) | exact bW (by assumption)) rfl (fun _ => rfl)) ?_ | refine Brw.same (by simp only [V.rn,V.rns,g7,gZ]) ?_ | refine Brw.le V.le_nil ?_ | refine Brw.le V.le_row ?_)) (hrf : r.rf = true := by first | rfl | simp [V.rf,V.rfs,aGm,aGO]) (hrb : rfB hs' := by repeat (first | exact rfB.nil | refine rfB.dead ?_ | refine rfB.live rfl ?_ | refine rfB.live (zD (fun _ => rfl) _) ?_ | refine rfB.live (rfs_flat (fun _ => rfl) _) ?_)) (hr : r.rn (sg ρ hb.length) = v := by (simp only [iG,dN,gL,m7,Blk.rn,V.rns,V.rn,sg,List.map_cons,List.map_nil,Option.map_some,Option.map_none,List.drop_succ_cons,List.drop_zero,List.drop_nil,List.set_cons_zero,List.set_cons_succ,List.cons_append,List.nil_append,List.append_nil,g7,gZ,sL,r6,f8,gE,cP,cQ,bQ,bP,pI,pG,mI,l8,mU,pB,mH,List.getElem?_cons_zero,List.getElem?_cons_succ,List.getElem?_nil,List.length_cons,List.length_nil,Nat.reduceAdd,Nat.reduceSub,Nat.add_zero,Nat.zero_add,Nat.sub_self,Nat.sub_zero] <;> rfl)) (hh : iG hb ρ hs' = hb' := by (simp only [iG,dN,gL,m7,Blk.rn,V.rns,V.rn,sg,List.map_cons,List.map_nil,Option.map_some,Option.map_none,List.drop_succ_cons,List.drop_zero,List.drop_nil,List.set_cons_zero,List.set_cons_succ,List.cons_append,List.nil_append,List.append_nil,g7,gZ,sL,r6,f8,gE,cP,cQ,bQ,bP,pI,pG,mI,l8,mU,pB,mH,List.getElem?_cons_zero,List.getElem?_cons_succ,List.getElem?_nil,List.length_cons,List.length_nil,Nat.reduceAdd,Nat.reduceSub,Nat.add_zero,Nat.zero_add,Nat.sub_self,Nat.sub_zero] <;> rfl)) (hF : eC F f = false := by rfl) (hG : eC G f = true → ∃ news,hb' = hb ++ news := by first | exact (fun _ => ⟨_,rfl⟩) | exact (fun _ => ⟨[],(List.append_nil _).symm⟩) | exact (fun h => absurd h (by decide))) (hg : Gd ops n fr gd := by exact gD) : OpsX Tryz.prog N (some (F,G)) ops (⟨some t,.call ⟨.value (.func f),ws.toArray,ts⟩,ty,pos,aft,gd⟩ :: l) (aE n fr) hb K := xG hw (Vm.Fn.lendR hc ρ β hnd hlt hdis hl hx hrf hrb hr hh) k hF hG hg
theorem xp {f : FuncId} {hb : Hp} {args xs : List V} {r : V} {N n t : Nat} {ops : Array Oper} {l : List Oper} {fr : List (Nat × V)} {K : List V → Hp → Prop} {ty : TypeId} {pos : String} {aft : Array Edge} {ws : List Operand} {ts : Array TypeId} (hc : Vm.Fn Tryz.prog f [] args r []) (k : OpsX Tryz.prog N none ops l (aE n ((t,r) :: fr)) hb K) (hw : pC n fr ws = some xs := by rfl) (hx : V.les v9 xs args := by repeat (first | exact V.les_refl _ _ | exact V.les_nil | apply V.les_cons | exact V.le_refl _ _ | exact V.le_nil | exact V.le_row | exact V.le_arr (fun _ => rfl) | apply V.le_agg)) (ha : V.rns (sg [] hb.length) args = args := by first | rfl | (simp only [V.rn,V.rns,g7,gZ] <;> rfl)) (hr : r.rn (sg [] hb.length) = r := by first | rfl | (simp only [V.rn,V.rns,g7,gZ] <;> rfl)) : OpsX Tryz.prog N none ops (⟨some t,.call ⟨.value (.func f),ws.toArray,ts⟩,ty,pos,aft,none⟩ :: l) (aE n fr) hb K := xC hw (Vm.Fn.argsLe (Vm.Fn.pure hc ha hr) hx) k
theorem xu {f : FuncId} {hb : Hp} {args xs : List V} {r : V} {N n t : Nat} {ops : Array Oper} {l : List Oper} {fr : List (Nat × V)} {K : List V → Hp → Prop} {ty : TypeId} {pos : String} {aft : Array Edge} {ws : List Operand} {ts : Array TypeId} {F G : List Nat} {gd : Option (Nat × Bool)} (hc : Vm.Fn Tryz.prog f [] args r []) (k : OpsX Tryz.prog N (some (F,G)) ops l (aE n ((t,r) :: fr)) hb K) (hw : pC n fr ws = some xs := by rfl) (hx : V.les v9 xs args := by repeat (first | exact V.les_refl _ _ | exact V.les_nil | apply V.les_cons | exact V.le_refl _ _ | exact V.le_nil | exact V.le_row | exact V.le_arr (fun _ => rfl) | apply V.le_agg)) (ha : ∀ L,V.rns (sg [] L) args = args := by (intro L; first | rfl | (simp only [V.rn,V.rns,g7,gZ] <;> rfl))) (hr : ∀ L,r.rn (sg [] L) = r := by (intro L; first | rfl | (simp only [V.rn,V.rns,g7,gZ] <;> rfl))) (hG : eC G f = false := by rfl) (hg : Gd ops n fr gd := by exact gD) : OpsX Tryz.prog N (some (F,G)) ops (⟨some t,.call ⟨.value (.func f),ws.toArray,ts⟩,ty,pos,aft,gd⟩ :: l) (aE n fr) hb K := xU hw (fun _ => Vm.Fn.argsLe (Vm.Fn.pure hc (ha _) (hr _)) hx) k hG hg
end Go.Proofs.YtnllpckhipmpgaaGreatDoor
