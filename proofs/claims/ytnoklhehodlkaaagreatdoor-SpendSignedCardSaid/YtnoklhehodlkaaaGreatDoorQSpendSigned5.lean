/- Texts of ours, joined: PlainH2, PlainC1, PlainN2, PlainV4, PlainV5, PlainR1, PlainV6, PlainV7, PlainC2, PlainC3, PlainC4, PlainC5, PlainC6, PlainC7, PlainV8, PlainV9, PlainV10, PlainV11, PlainV12, PlainV13, PlainV14, PlainVS, PlainX1, PlainX2, PlainX3, PlainX4, PlainX5, PlainX6, PlainSC, PlainSG, PlainSH, PlainSI. -/
import Derived.Test.YtnoklhehodlkaaaGreatDoorQSpendSigned4
set_option linter.unusedSimpArgs false
set_option linter.unusedVariables false
set_option linter.unusedSectionVars false
namespace Go.Proofs.YtnoklhehodlkaaaGreatDoor
open Go Go.Vm
def beG (n : Nat) (i : Nat) : Int := IntKind.u8.wrap ((IntKind.u64.wrap (8 * (n : Int))).fdiv (2 ^ (56 - 8 * i)))
def xL (n : Nat) : Nat := (64 - (n + 9) % 64) % 64
def uU (n : Nat) : List Int := (128 :: List.replicate (xL n) 0) ++ (List.range' 0 8).map (beG n)
theorem aJ0 (n : Nat) : (uU n).length = 9 + xL n := by simp [uU]; omega
theorem aEr (x : Int) : 0 ≤ IntKind.u8.wrap x ∧ IntKind.u8.wrap x < 256 := by rw [IntKind.wrap_u8]; omega
theorem aJ7 (n : Nat) : Byt (uU n) := by
 intro x hx
 simp only [uU,List.mem_append,List.mem_cons,List.mem_replicate,List.mem_map] at hx
 rcases hx with (rfl | ⟨_,rfl⟩) | ⟨i,_,rfl⟩
 ·omega
 ·omega
 ·exact aEr _
theorem aLl (a : Int) (s : Nat) (h : s ≤ 64) : shr .u64 a (s : Int) = some (a.fdiv (2 ^ s)) := by
 unfold shr
 rw [if_neg (by omega),Int.toNat_natCast,show min s IntKind.u64.bits = s from Nat.min_eq_left h]
theorem aJv (N n : Nat) : ∀ (k m : Nat) (acc : List Int),k ≤ 8 → k < m → acc.length + k ≤ 1000 → qK N (n : Int) m ((8 - k : Nat) : Int) acc = some (acc ++ (List.range' (8 - k) k).map (beG n))
 | 0,m,acc,_,hm,_ => by
  obtain ⟨m,rfl⟩ : ∃ q,m = q + 1 := ⟨m - 1,by omega⟩
  rw [qK,show decide (((8 - 0 : Nat) : Int) < 8) = false from rfl]; simp
 | k + 1,m,acc,hk,hm,ha => by
  obtain ⟨m,rfl⟩ : ∃ q,m = q + 1 := ⟨m - 1,by omega⟩
  rw [qK,show decide (((8 - (k + 1) : Nat) : Int) < 8) = true from decide_eq_true (by omega),if_pos rfl]
  rw [cG (a := 8 * ((8 - (k + 1) : Nat) : Int)) (by omega) (by omega),cG (a := 56 - 8 * ((8 - (k + 1) : Nat) : Int)) (by omega) (by omega),show 56 - 8 * ((8 - (k + 1) : Nat) : Int) = ((56 - 8 * (8 - (k + 1)) : Nat) : Int) by omega,aLl _ _ (by omega)]
  simp only [Option.bind_some]
  rw [j7 (by simp; omega)]
  simp only [Option.bind_some,i1 (show 8 - (k + 1) ≤ 100000 by omega)]
  rw [show 8 - (k + 1) + 1 = 8 - k by omega,aJv N n k m _ (by omega) (by omega) (by simp; omega),List.range'_succ,List.map_cons,show 8 - (k + 1) + 1 = 8 - k by omega,List.append_assoc]
  rfl
theorem aTh (z : Nat) : (List.replicate (1 + z) (0 : Int)).set 0 128 = 128 :: List.replicate z 0 := by rw [Nat.add_comm,List.replicate_succ]; rfl
theorem aSM (N : Nat) (hN : 70000 ≤ N) (n : Nat) (hn : n ≤ 1000000000) : aC4 N (n : Int) = some (uU n) := by
 have hz : xL n < 64 := Nat.mod_lt _ (by omega)
 have hlim := lP
 unfold aC4
 rw [wZ (a := (n : Int) + 9) (by omega) (by omega),show (n : Int) + 9 = ((n + 9 : Nat) : Int) by omega,show (64 : Int) = ((64 : Nat) : Int) from rfl,sU]
 have h1 : (n + 9) % 64 < 64 := Nat.mod_lt _ (by omega)
 rw [wZ (a := ((64 : Nat) : Int) - (((n + 9) % 64 : Nat) : Int)) (by omega) (by omega),show ((64 : Nat) : Int) - (((n + 9) % 64 : Nat) : Int) = ((64 - (n + 9) % 64 : Nat) : Int) by omega,sU]
 rw [show ((64 - (n + 9) % 64) % 64 : Nat) = xL n from rfl,wZ (a := 1 + ((xL n : Nat) : Int)) (by omega) (by omega),wZ (a := 9 + ((xL n : Nat) : Int)) (by omega) (by omega)]
 have hm : mkl 1 (0 : Int) (1 + ((xL n : Nat) : Int)) (9 + ((xL n : Nat) : Int)) = some (List.replicate (1 + xL n) 0) := by
  unfold mkl
  rw [if_pos ⟨by omega,by omega,by omega⟩,show (1 + ((xL n : Nat) : Int)).toNat = 1 + xL n by omega]
 have h0 : b5 (List.replicate (1 + xL n) (0 : Int)) 0 = some 0 := by
  rw [show (0 : Int) = ((0 : Nat) : Int) from rfl,aBC,List.getElem?_replicate,if_pos (by omega)]
 simp only [hm,Option.bind_some,h0,Int.toNat_zero,aTh]
 have := aJv N n 8 N (128 :: List.replicate (xL n) 0) (by omega) (by omega) (by simp; omega)
 rw [show ((8 - 8 : Nat) : Int) = 0 from rfl] at this
 rw [this]; rfl
theorem aBK {f : Nat → Int → List Int → Option (List Int)} (l : List (List Int)) (hn : l.length ≤ 1000) (ht : l.flatten.length ≤ 50000000)
  (hs : ∀ m j acc (hj : j < l.length),acc.length + l[j].length ≤ 50000000 → f (m + 1) (j : Int) acc = f m ((j + 1 : Nat) : Int) (acc ++ l[j])) (he : ∀ m j acc,l.length ≤ j → f (m + 1) (j : Int) acc = some acc) (N : Nat) (hN : 70000 ≤ N) :
  f N 0 [] = some l.flatten := by
 have hfl : l.flatMap id = l.flatten := by simp
 have := uJ (f := f) (xs := l) (g := id) (B := 50000000) (by omega) hs he N 0 [] (by omega) (by omega) (by rw [List.drop_zero,hfl]; simpa using ht)
 rw [List.drop_zero,hfl] at this
 simpa using this
theorem aQF (N : Nat) (hN : 70000 ≤ N) (l : List (List Int)) (hn : l.length ≤ 1000) (ht : l.flatten.length ≤ 50000000) : aBA N l = some l.flatten := by
 have := aBK (f := qE N l) l hn ht (fun m j acc hj hB => by
  rw [qE,dT hj,if_pos rfl,b9 l hj,Option.bind_some,j7 (by omega)]
  simp only [Option.bind_some,i1 (show j ≤ 100000 by omega)]) (fun m j acc hj => by rw [qE,dF (by omega)]; rfl) N hN
 unfold aBA
 rw [this]; rfl
def cmp (N : Nat) (st blk : List Int) : List Int := (k5 N st blk).getD []
def tX (msg : List Int) (i : Nat) : List Int := (msg.drop (64 * i)).take 64
theorem aDI {l : List Int} (h : Byt l) (k : Nat) : Byt (l.take k) := fun x hx => h x (List.mem_of_mem_take hx)
theorem aDt {l : List Int} (h : Byt l) (k : Nat) : Byt (l.drop k) := fun x hx => h x (List.mem_of_mem_drop hx)
theorem aNb (N : Nat) (hN : 70000 ≤ N) (st blk : List Int) (hst : st.length = 8) (hb : Byt blk) (hl : blk.length = 64) : k5 N st blk = some (cmp N st blk) ∧ (cmp N st blk).length = 8 := by
 obtain ⟨b,rfl,h2⟩ := aKR hb
 obtain ⟨r,h3,h4⟩ := aOB N hN b (by rw [aGJ] at hl; exact hl) h2 st hst
 have : cmp N st (iN b) = r := by simp [cmp,h3]
 rw [this]; exact ⟨h3,h4⟩
def v5 (N : Nat) (msg st : List Int) (j k : Nat) : List Int := (List.range' j k).foldl (fun s i => cmp N s (tX msg i)) st
section
variable (N : Nat) (hN : 70000 ≤ N) (msg : List Int) (hb : Byt msg) (hl : msg.length ≤ 2000000)
include hN hb hl
theorem aFS : ∀ (m j : Nat) (st : List Int),msg.length / 64 - j < m → j ≤ msg.length / 64 → st.length = 8 → sG N msg m (j : Int) st = some (v5 N msg st j (msg.length / 64 - j)) ∧ (v5 N msg st j (msg.length / 64 - j)).length = 8
 | 0,j,st,hm,_,_ => by omega
 | m + 1,j,st,hm,hj,hst => by
  rw [sG,show (64 : Int) = ((64 : Nat) : Int) from rfl,sS,cG (a := ((msg.length / 64 : Nat) : Int)) (by omega) (by omega)]
  by_cases h : j < msg.length / 64
  ·have hlen : (tX msg j).length = 64 := by simp [tX]; omega
   obtain ⟨c1,c2⟩ := aNb N hN st (tX msg j) hst (aDI (aDt hb _) _) hlen
   rw [dT h,if_pos rfl,cR hst,cG (a := ((64 : Nat) : Int) * (j : Int)) (by omega) (by omega)]
   have e1 : sub msg (((64 : Nat) : Int) * (j : Int)) (msg.length : Int) = some (msg.drop (64 * j)) := by
    unfold sub
    rw [if_pos ⟨by omega,by omega,by omega⟩,show (((64 : Nat) : Int) * (j : Int)).toNat = 64 * j by omega,Int.toNat_natCast,List.take_of_length_le (Nat.le_refl _)]
   have e2 : q6 64 (msg.drop (64 * j)) = some (tX msg j) := by unfold q6; rw [if_pos (by simp; omega)]; rfl
   simp only [e1,e2,c1,cR c2,Option.bind_some,i1 (show j ≤ 100000 by omega)]
   obtain ⟨i1',i2'⟩ := aFS m (j + 1) _ (by omega) (by omega) c2
   have er : v5 N msg st j (msg.length / 64 - j) = v5 N msg (cmp N st (tX msg j)) (j + 1) (msg.length / 64 - (j + 1)) := by
    unfold v5
    rw [show msg.length / 64 - j = (msg.length / 64 - (j + 1)) + 1 by omega,List.range'_succ,List.foldl_cons]
   rw [er]
   exact ⟨i1',i2'⟩
  ·rw [dF h,show msg.length / 64 - j = 0 by omega]
   exact ⟨rfl,hst⟩
end
def u4 (st : List Int) (i : Nat) : Int := IntKind.u8.wrap ((st.getD (i / 4) 0).fdiv (2 ^ (24 - 8 * (i % 4))))
def aDn (st : List Int) : List Int := (List.range 32).map (u4 st)
theorem aFQ (st : List Int) : (aDn st).length = 32 := by simp [aDn]
theorem aNT (st : List Int) : Byt (aDn st) := by
 intro x hx
 simp only [aDn,List.mem_map] at hx
 obtain ⟨i,_,rfl⟩ := hx
 exact aEr _
theorem xY (g : Nat → Int) (w j : Nat) (hj : j < w) : ((List.range j).map g ++ List.replicate (w - j) 0).set j (g j) = (List.range (j + 1)).map g ++ List.replicate (w - (j + 1)) 0 := by
 rw [List.set_append_right _ _ (by simp),show w - j = (w - (j + 1)) + 1 by omega,List.replicate_succ,List.range_succ,List.map_append,List.append_assoc]
 simp
theorem aII (a : Int) (s : Nat) (h : s ≤ 32) : shr .u32 a (s : Int) = some (a.fdiv (2 ^ s)) := by
 unfold shr
 rw [if_neg (by omega),Int.toNat_natCast,show min s IntKind.u32.bits = s from Nat.min_eq_left h]
theorem aQU {st : List Int} (hst : st.length = 8) {i : Nat} (h : i < 8) : bJ 8 st (i : Int) = some (st.getD i 0) := by
 have : i < st.length := by omega
 rw [cY h this]; simp [this]
section
variable (N : Nat) (hN : 70000 ≤ N) (st : List Int) (hst : st.length = 8)
include hN hst
theorem aJb : ∀ (m j : Nat),32 - j < m → j ≤ 32 → sJ N st m (j : Int) ((List.range j).map (u4 st) ++ List.replicate (32 - j) 0) = some (aDn st)
 | 0,j,hm,_ => by omega
 | m + 1,j,hm,hj => by
  rw [sJ]
  by_cases h : j < 32
  ·rw [show decide ((j : Int) < 32) = true from decide_eq_true (by omega),if_pos rfl,show (4 : Int) = ((4 : Nat) : Int) from rfl,sS,sU,cG (a := ((j / 4 : Nat) : Int)) (by omega) (by omega),aQU hst (by omega)]
   rw [cG (a := ((j % 4 : Nat) : Int) * 8) (by omega) (by omega),cG (a := 24 - ((j % 4 : Nat) : Int) * 8) (by omega) (by omega),show 24 - ((j % 4 : Nat) : Int) * 8 = ((24 - 8 * (j % 4) : Nat) : Int) by omega]
   simp only [Option.bind_some]
   rw [aII _ _ (by omega),cY h (by simp; omega)]
   simp only [Option.bind_some,Int.toNat_natCast,i1 (show j ≤ 100000 by omega)]
   have := xY (u4 st) 32 j h
   rw [show IntKind.u8.wrap ((st.getD (j / 4) 0).fdiv (2 ^ (24 - 8 * (j % 4)))) = u4 st j from rfl,this]
   exact aJb m (j + 1) (by omega) (by omega)
  ·obtain rfl : j = 32 := by omega
   rw [show decide (((32 : Nat) : Int) < 32) = false from rfl]
   simp [aDn]
end
def sha256 (N : Nat) (b : List Int) : List Int := aDn (v5 N (b ++ uU b.length) vV 0 ((b ++ uU b.length).length / 64))
theorem mC (N : Nat) (b : List Int) : (sha256 N b).length = 32 := aFQ _
theorem nP (N : Nat) (b : List Int) : Byt (sha256 N b) := aNT _
theorem aGp (N : Nat) (hN : 70000 ≤ N) (b : List Int) (hb : Byt b) (hl : b.length ≤ 1000000) : xR N b = some (sha256 N b) := by
 have hz : xL b.length < 64 := Nat.mod_lt _ (by omega)
 have hpl := aJ0 b.length
 have hmb : Byt (b ++ uU b.length) := hb.append (aJ7 _)
 have hml : (b ++ uU b.length).length ≤ 2000000 := by rw [List.length_append]; omega
 obtain ⟨s1,s2⟩ := aFS N hN _ hmb hml N 0 vV (by omega) (by omega) rfl
 rw [show ((0 : Nat) : Int) = 0 from rfl,Nat.sub_zero] at s1
 rw [Nat.sub_zero] at s2
 have hw : IntKind.u64.wrap (b.length : Int) = (b.length : Int) := wZ (by omega) (by omega)
 have o := aJb N hN (v5 N (b ++ uU b.length) vV 0 ((b ++ uU b.length).length / 64)) s2 N 0 (by omega) (by omega)
 simp only [List.range_zero,List.map_nil,List.nil_append,Nat.sub_zero] at o
 rw [show ((0 : Nat) : Int) = 0 from rfl] at o
 simp only [xR,hw,aSM N hN b.length (by omega),Option.bind_some]
 rw [aQF N hN [b,uU b.length] (by simp) (by simp; omega)]
 simp only [Option.bind_some,List.flatten_cons,List.flatten_nil,List.append_nil,s1,aBk,o,aBs,cR (aFQ _)]
 rfl
theorem aFl (s : ByteArray) : Byt (eR s) := by
 intro x hx
 unfold eR at hx
 simp only [List.mem_map] at hx
 obtain ⟨b,_,rfl⟩ := hx
 have := b.toNat_lt
 omega
def vX (N : Nat) (tag : ByteArray) (b : List Int) : List Int := sha256 N (sha256 N (eR tag) ++ (sha256 N (eR tag) ++ b))
theorem kP (N : Nat) (tag : ByteArray) (b : List Int) : (vX N tag b).length = 32 := mC _ _
theorem nM (N : Nat) (tag : ByteArray) (b : List Int) : Byt (vX N tag b) := nP _ _
theorem aEg (N : Nat) (hN : 70000 ≤ N) (tag : ByteArray) (ht : tag.size ≤ 1000) (b : List Int) (hb : Byt b) (hl : b.length ≤ 900000) : vH N tag b = some (vX N tag b) := by
 have hlim := lP
 have hs : stb tag = some (eR tag) := by unfold stb; rw [if_pos (by omega)]
 have s1 := aGp N hN (eR tag) (aFl tag) (by rw [wK]; omega)
 have l1 := mC N (eR tag)
 have t1 := aGp N hN (sha256 N (eR tag) ++ (sha256 N (eR tag) ++ b)) ((nP _ _).append ((nP _ _).append hb)) (by simp only [List.length_append,l1]; omega)
 simp only [vH,hs,s1,Option.bind_some,cR l1]
 rw [aQF N hN _ (by simp) (by simp [l1]; omega)]
 simp only [Option.bind_some,List.flatten_cons,List.flatten_nil,List.append_nil,t1,cR (mC N _)]
 rfl
theorem aRW (op : BinOp) (a b : Int) : 0 ≤ bits op .u64 a b ∧ bits op .u64 a b < 18446744073709551616 := by
 unfold bits
 rw [IntKind.wrap_u64]
 omega
theorem Wd.set {l : List Int} (h : Wd l) (i : Nat) {x : Int} (hx : 0 ≤ x ∧ x < 18446744073709551616) : Wd (l.set i x) :=
 ⟨by rw [List.length_set]; exact h.1,fun y hy => (List.mem_or_eq_of_mem_set hy).elim (h.2 y) (fun e => e ▸ hx)⟩
section
variable {N : Nat} (hN : 70000 ≤ N)
include hN
theorem aKT {h : List Int} (hl : h.length = 32) : ∀ (m j : Nat) (l : List Int),32 - j < m → j ≤ 32 → Wd l → ∃ r,fF N h m (j : Int) l = some r ∧ Wd r
 | 0,j,l,hm,_,_ => by omega
 | m + 1,j,l,hm,hj,hw => by
  rw [fF]
  by_cases hh : j < 32
  ·have h4 := hw.1
   rw [show decide ((j : Int) < 32) = true from decide_eq_true (by omega),if_pos rfl,cY hh (by omega),show (8 : Int) = ((8 : Nat) : Int) from rfl,sS,cG (a := ((j / 8 : Nat) : Int)) (by omega) (by omega),cG (a := 3 - ((j / 8 : Nat) : Int)) (by omega) (by omega),show 3 - ((j / 8 : Nat) : Int) = ((3 - j / 8 : Nat) : Int) by omega,cY (show 3 - j / 8 < 4 by omega) (by omega)]
   obtain ⟨y,hy⟩ : ∃ y,shl .u64 l[3 - j / 8] ((8 : Nat) : Int) = some y := by unfold shl; rw [if_neg (by omega)]; exact ⟨_,rfl⟩
   simp only [Option.bind_some,hy,i1 (show j ≤ 100000 by omega)]
   exact aKT hl m (j + 1) _ (by omega) (by omega) (hw.set _ (aRW _ _ _))
  ·rw [show decide ((j : Int) < 32) = false from decide_eq_false (by omega)]
   exact ⟨l,rfl,hw⟩
theorem yL {h : List Int} (hl : h.length = 32) : ∃ n,n < 115792089237316195423570985008687907853269984665640564039457584007913129639936 ∧ fO N h = some (U n) := by
 obtain ⟨r,h1,h2⟩ := aKT hN hl N 0 (List.replicate 4 0) (by omega) (by omega) ⟨by simp,fun x hx => by have := List.eq_of_mem_replicate hx; omega⟩
 rw [show ((0 : Nat) : Int) = 0 from rfl] at h1
 obtain ⟨n,hn,rfl⟩ := h2.ex
 exact ⟨n,hn,by simp only [fO,cR hl,Option.bind_some,h1,nH,bI]⟩
def byG (n : Nat) (i : Nat) : Int := IntKind.u8.wrap (((U n).getD (3 - i / 8) 0).fdiv (2 ^ (56 - 8 * (i % 8))))
def bT (n : Nat) : List Int := (List.range 32).map (byG n)
omit hN in
theorem bZ (n : Nat) : (bT n).length = 32 := by simp [bT]
omit hN in
theorem r6 (n : Nat) : Byt (bT n) := by
 intro x hx
 simp only [bT,List.mem_map] at hx
 obtain ⟨i,_,rfl⟩ := hx
 exact aEr _
theorem aK2 (n : Nat) : ∀ (m j : Nat),32 - j < m → j ≤ 32 → jI N (U n) m (j : Int) ((List.range j).map (byG n) ++ List.replicate (32 - j) 0) = some (bT n)
 | 0,j,hm,_ => by omega
 | m + 1,j,hm,hj => by
  rw [jI]
  by_cases h : j < 32
  ·have hg : bJ 4 (U n) ((3 - j / 8 : Nat) : Int) = some ((U n).getD (3 - j / 8) 0) := by
    have : 3 - j / 8 < (U n).length := by rw [aR4]; omega
    rw [cY (show 3 - j / 8 < 4 by omega) this]; simp [this]
   rw [show decide ((j : Int) < 32) = true from decide_eq_true (by omega),if_pos rfl,show (8 : Int) = ((8 : Nat) : Int) from rfl,sS,sU,cG (a := ((j / 8 : Nat) : Int)) (by omega) (by omega),cG (a := 3 - ((j / 8 : Nat) : Int)) (by omega) (by omega),show 3 - ((j / 8 : Nat) : Int) = ((3 - j / 8 : Nat) : Int) by omega,hg]
   rw [cG (a := ((j % 8 : Nat) : Int) * ((8 : Nat) : Int)) (by omega) (by omega),cG (a := 56 - ((j % 8 : Nat) : Int) * ((8 : Nat) : Int)) (by omega) (by omega),show 56 - ((j % 8 : Nat) : Int) * ((8 : Nat) : Int) = ((56 - 8 * (j % 8) : Nat) : Int) by omega]
   simp only [Option.bind_some]
   rw [aLl _ _ (by omega),cY h (by simp; omega)]
   simp only [Option.bind_some,Int.toNat_natCast,i1 (show j ≤ 100000 by omega)]
   have := xY (byG n) 32 j h
   rw [show IntKind.u8.wrap (((U n).getD (3 - j / 8) 0).fdiv (2 ^ (56 - 8 * (j % 8)))) = byG n j from rfl,this]
   exact aK2 n m (j + 1) (by omega) (by omega)
  ·obtain rfl : j = 32 := by omega
   rw [show decide (((32 : Nat) : Int) < 32) = false from rfl]
   simp [bT]
theorem aHt (n : Nat) : sL N (U n) = some (bT n) := by
 have := aK2 hN n N 0 (by omega) (by omega)
 simp only [List.range_zero,List.map_nil,List.nil_append,Nat.sub_zero] at this
 rw [show ((0 : Nat) : Int) = 0 from rfl] at this
 simp only [sL,this,Option.bind_some,wU,cR (bZ n)]
theorem grow (l : List (List Int)) (hn : l.length ≤ 1000) (h32 : ∀ x ∈ l,x.length = 32) : xD N l = some l.flatten := by
 have hfl : l.flatten.length ≤ l.length * 32 := by
  clear hn
  induction l with
  | nil => simp
  | cons x l ih =>
   have h1 := h32 x (by simp)
   have h2 := ih (fun y hy => h32 y (by simp [hy]))
   simp only [List.flatten_cons,List.length_append,List.length_cons]; omega
 have := aBK (f := nU N l) l hn (by omega) (fun m j acc hj hB => by
  rw [nU,dT hj,if_pos rfl,b9 l hj,Option.bind_some,cR (h32 _ (List.getElem_mem hj)),Option.bind_some,j7 (by omega)]
  simp only [Option.bind_some,i1 (show j ≤ 100000 by omega)]) (fun m j acc hj => by rw [nU,dF (by omega)]; rfl) N hN
 unfold xD
 rw [this]; rfl
theorem aM9 {h : List Int} (hl : h.length = 32) : ∃ n,n < 57896044618658097711785492504343953926634992332820282019728792003956564801911 ∧ oN N h = some (U n) := by
 obtain ⟨n,h1,h2⟩ := yL hN hl
 refine ⟨(n + 0) % 57896044618658097711785492504343953926634992332820282019728792003956564801911,Nat.mod_lt _ (by decide), ?_⟩
 rw [show oN N h = ((aX 32 h).bind fun q => (fO N h).bind fun x4 => (mW N x4 [0,0,0,0]).bind fun x6 => (aX 4 x6).bind fun q_1 => some x6) from rfl]
 simp only [cR hl,Option.bind_some,h2,← wF,mW,bI,aBU,aI1 (b := 57896044618658097711785492504343953926634992332820282019728792003956564801911) hN (by decide) (by decide) h1 (show (0 : Nat) < 115792089237316195423570985008687907853269984665640564039457584007913129639936 by decide)]
def zE : ByteArray := ⟨#[108,105,103,104,116,99,108,105,101,110,116,47,99,104,97,108,108,101,110,103,101]⟩
theorem aJg {r p : Nat} {m : List Int} (hm : m.length = 32) (hb : Byt m) : ∃ n,n < 57896044618658097711785492504343953926634992332820282019728792003956564801911 ∧ lM N (U r) (U p) m = some (U n) := by
 obtain ⟨n,h1,h2⟩ := aM9 hN (kP N zE (bT r ++ (bT p ++ m)))
 refine ⟨n,h1, ?_⟩
 have hrow : xD N [bT r,bT p,m] = some (bT r ++ (bT p ++ m)) := by
  rw [grow hN _ (by simp) (fun x hx => by
   simp only [List.mem_cons,List.not_mem_nil,or_false] at hx
   rcases hx with rfl | rfl | rfl
   ·exact bZ _
   ·exact bZ _
   ·exact hm)]
  simp
 have ht := aEg N hN zE (by decide) (bT r ++ (bT p ++ m)) ((r6 _).append ((r6 _).append hb)) (by simp [bZ,hm])
 simp only [lM,bI,aHt hN,cR hm,cR (bZ _),hrow,Option.bind_some]
 rw [show (⟨#[108,105,103,104,116,99,108,105,101,110,116,47,99,104,97,108,108,101,110,103,101]⟩ : ByteArray) = zE from rfl,ht]
 simp only [Option.bind_some,h2,bI]
theorem uP {a : Nat} (ha : a < 115792089237316195423570985008687907853269984665640564039457584007913129639936) : nV N (U a) = some (decide (a < 57896044618658097711785492504343953926634992332820282019728792003956564801911)) := by
 simp only [nV,bI,aBU,Option.bind_some,y9 hN ha (show (57896044618658097711785492504343953926634992332820282019728792003956564801911 : Nat) < 115792089237316195423570985008687907853269984665640564039457584007913129639936 by decide),aLL]
theorem aOP : ([1,0,0,0] : List Int) = U 1 := by decide +kernel
theorem aMv {a : Nat} (ha : a < 115792089237316195423570985008687907853269984665640564039457584007913129639936) : ∃ v,oZ N (U a) = some v := by
 have hJ : ∀ t,∃ v,kU N (U a) t = some v := by
  intro t
  cases t with
  | true => exact ⟨_,rfl⟩
  | false =>
   simp only [kU,Bool.false_eq_true,if_false,bI,aBU,Option.bind_some,aE7 hN ha (show (57896044618658097711785492504343953926634992332820282019728792003956564801911 : Nat) < 115792089237316195423570985008687907853269984665640564039457584007913129639936 by decide),fG,aOP hN]
   exact ⟨_,rfl⟩
 simp only [oZ,bI,Option.bind_some,aJo,y9 hN ha (show (115792089237316195423570985008687907853269984665640564039457584007913129603823 : Nat) < 115792089237316195423570985008687907853269984665640564039457584007913129639936 by decide)]
 split
 ·exact hJ _
 ·exact hJ _
theorem aIW {a : Nat} (ha : a < 115792089237316195423570985008687907853269984665640564039457584007913129639936) : ∃ v,pX N (U a) = some v := by
 obtain ⟨v,hv⟩ := aMv hN ha
 simp only [pX,bI,fG,aOP hN,Option.bind_some,hv]
 split <;> exact ⟨_,rfl⟩
theorem aMZ {p e s : Nat} {m : List Int} (hp : p < 115792089237316195423570985008687907853269984665640564039457584007913129639936) (he : e < 115792089237316195423570985008687907853269984665640564039457584007913129639936) (hs : s < 115792089237316195423570985008687907853269984665640564039457584007913129639936) (hm : m.length = 32) (hb : Byt m) : ∃ v,qO N (U p) m (U e) (U s) = some v := by
 obtain ⟨v,hv⟩ := aIW hN hp
 have hq : (57896044618658097711785492504343953926634992332820282019728792003956564801911 : Nat) < 115792089237316195423570985008687907853269984665640564039457584007913129639936 := by decide
 have hJ : ∀ t,∃ v,jR N (U p) m (U e) (U s) t = some v := by
  intro t
  cases t with
  | true => exact ⟨_,rfl⟩
  | false =>
   have hd : (57896044618658097711785492504343953926634992332820282019728792003956564801911 + 115792089237316195423570985008687907853269984665640564039457584007913129639936 - e) % 115792089237316195423570985008687907853269984665640564039457584007913129639936 < 115792089237316195423570985008687907853269984665640564039457584007913129639936 := Nat.mod_lt _ (by decide)
   have h4 : ([4,0,0,0] : List Int) = U 4 := by decide +kernel
   have hx : ∀ z : Nat,z % 115792089237316195423570985008687907853269984665640564039457584007913129603823 < 115792089237316195423570985008687907853269984665640564039457584007913129639936 := fun z => Nat.lt_trans (Nat.mod_lt z (by decide)) (by decide)
   simp only [jR,Bool.false_eq_true,if_false,bI,aBU,Option.bind_some,aE6 hN hq he,tA,fG,h4,aE7 hN (show (4 : Nat) < 115792089237316195423570985008687907853269984665640564039457584007913129639936 by decide) hs,aE7 hN hp hd,aLs hN (hx _) (hx _),cR hm]
   obtain ⟨n,_,hn⟩ := aJg hN (r := 4 ^ s % 115792089237316195423570985008687907853269984665640564039457584007913129603823 * (p ^ ((57896044618658097711785492504343953926634992332820282019728792003956564801911 + 115792089237316195423570985008687907853269984665640564039457584007913129639936 - e) % 115792089237316195423570985008687907853269984665640564039457584007913129639936) % 115792089237316195423570985008687907853269984665640564039457584007913129603823) % 115792089237316195423570985008687907853269984665640564039457584007913129603823) (p := p) hm hb
   rw [hn]
   exact ⟨_,rfl⟩
 simp only [qO,bI,Option.bind_some,uP hN he,uP hN hs,hv]
 split
 ·exact hJ _
 ·split
  ·exact hJ _
  ·exact hJ _
theorem aM3 {b : List Int} : ∃ e s r,e < 115792089237316195423570985008687907853269984665640564039457584007913129639936 ∧ s < 115792089237316195423570985008687907853269984665640564039457584007913129639936 ∧ qM N b = some (U e,U s,r) := by
 have h0 : List.replicate 4 (0 : Int) = U 0 := by decide +kernel
 unfold qM
 by_cases hl : b.length = 64
 ·rw [show (((b.length : Nat) : Int) != 64) = false by rw [hl]; rfl]
  have e1 : sub b 0 32 = some (b.take 32) := by unfold sub; rw [if_pos ⟨by omega,by omega,by omega⟩]; simp
  have e2 : sub b 32 (b.length : Int) = some (b.drop 32) := by
   unfold sub; rw [if_pos ⟨by omega,by omega,by omega⟩,Int.toNat_natCast,List.take_of_length_le (Nat.le_refl _)]; rfl
  have l1 : (b.take 32).length = 32 := by simp; omega
  have l2 : (b.drop 32).length = 32 := by simp; omega
  have a1 : q6 32 (b.take 32) = some (b.take 32) := by unfold q6; rw [if_pos (by omega),List.take_of_length_le (by omega)]
  have a2 : q6 32 (b.drop 32) = some (b.drop 32) := by unfold q6; rw [if_pos (by omega),List.take_of_length_le (by omega)]
  obtain ⟨e,h1,h2⟩ := yL hN l1
  obtain ⟨s,h3,h4⟩ := yL hN l2
  have hJ : ∀ t,∃ e' s' r,e' < 115792089237316195423570985008687907853269984665640564039457584007913129639936 ∧ s' < 115792089237316195423570985008687907853269984665640564039457584007913129639936 ∧ nW N (U e) (U s) t = some (U e',U s',r) := by
   intro t
   cases t with
   | true => exact ⟨0,0,5,by decide,by decide,by unfold nW; rw [h0]; rfl⟩
   | false => exact ⟨e,s,0,h1,h3,rfl⟩
  simp only [Bool.false_eq_true,if_false,e1,e2,a1,a2,h2,h4,Option.bind_some,bI,uP hN h1,uP hN h3]
  split
  ·exact hJ _
  ·exact hJ _
 ·rw [show (((b.length : Nat) : Int) != 64) = true by simp; omega,if_pos rfl,h0]
  exact ⟨0,0,8,by decide,by decide,rfl⟩
theorem aMC {m : List Int} (hm : m.length = 32) (hb : Byt m) (h a : Int) (st : List (List Int)) (br : List aN) (c : Int) (key sig : List Int) : ∃ e,cQ N m h a st br c key sig = some e := by
 have hJ : ∀ t,∃ e,g9 N m h a st br c t = some e := fun t => by cases t <;> exact ⟨_,rfl⟩
 unfold cQ
 by_cases hl : key.length = 32
 ·rw [show (((key.length : Nat) : Int) != 32) = false by rw [hl]; rfl]
  have a1 : q6 32 key = some key := by unfold q6; rw [if_pos (by omega),List.take_of_length_le (by omega)]
  obtain ⟨p,h1,h2⟩ := yL hN hl
  obtain ⟨v,hv⟩ := aIW hN h1
  simp only [Bool.false_eq_true,if_false,a1,h2,Option.bind_some,bI,hv]
  split
  ·exact ⟨_,rfl⟩
  ·split
   ·exact ⟨_,rfl⟩
   ·obtain ⟨e,s,r,h3,h4,h5⟩ := aM3 hN (b := sig)
    simp only [h5,Option.bind_some]
    split
    ·exact hJ _
    ·obtain ⟨w,hw⟩ := aMZ hN h1 h3 h4 hm hb
     simp only [cR hm,Option.bind_some,hw]
     exact hJ _
 ·rw [show (((key.length : Nat) : Int) != 32) = true by simp; omega]
  exact ⟨_,rfl⟩
end
def t3 (n w : Nat) : Nat := n / 18446744073709551616 ^ (3 - w) % 18446744073709551616
theorem aLQ (n : Nat) : U n = [(t3 n 3 : Int),(t3 n 2 : Int),(t3 n 1 : Int),(t3 n 0 : Int)] := by
 simp only [U,w4,t3,Nat.sub_self,Nat.pow_zero,Nat.div_one]
theorem aGE (n w : Nat) : t3 n w < 18446744073709551616 := Nat.mod_lt _ (by decide)
def rN (n w j : Nat) : Nat := t3 n w / 2 ^ (64 - 8 * min 8 (j - 8 * w))
def stF (n j : Nat) : List Int := [(rN n 3 j : Int),(rN n 2 j : Int),(rN n 1 j : Int),(rN n 0 j : Int)]
theorem aQi (n j w : Nat) (hw : w < 4) : (stF n j)[3 - w]? = some ((rN n w j : Nat) : Int) := by
 match w,hw with
 | 0,_ => rfl
 | 1,_ => rfl
 | 2,_ => rfl
 | 3,_ => rfl
theorem aG2 (n i : Nat) (hi : i < 32) : byG n i = ((t3 n (i / 8) / 2 ^ (56 - 8 * (i % 8)) % 256 : Nat) : Int) := by
 have h : (U n).getD (3 - i / 8) 0 = ((t3 n (i / 8) : Nat) : Int) := by
  rw [aLQ]
  have : i / 8 < 4 := by omega
  generalize i / 8 = w at this
  match w,this with
  | 0,_ => rfl
  | 1,_ => rfl
  | 2,_ => rfl
  | 3,_ => rfl
 unfold byG
 rw [h,show ((2 : Int) ^ (56 - 8 * (i % 8))) = ((2 ^ (56 - 8 * (i % 8)) : Nat) : Int) by simp,Int.fdiv_eq_ediv_of_nonneg _ (Int.natCast_nonneg _),← Int.natCast_ediv,IntKind.wrap_u8]
 generalize t3 n (i / 8) / 2 ^ (56 - 8 * (i % 8)) = y
 omega
theorem aHv {n w r : Nat} (hr : r < 8) : rN n w (8 * w + r + 1) = 2 ^ 8 * rN n w (8 * w + r) + t3 n w / 2 ^ (56 - 8 * r) % 256 ∧ rN n w (8 * w + r) < 2 ^ 56 := by
 have e1 : 64 - 8 * min 8 (8 * w + r + 1 - 8 * w) = 56 - 8 * r := by omega
 have e2 : 64 - 8 * min 8 (8 * w + r - 8 * w) = (56 - 8 * r) + 8 := by omega
 unfold rN
 rw [e1,e2,Nat.pow_add,← Nat.div_div_eq_div_mul]
 have hu := aGE n w
 have hd : t3 n w / 2 ^ (56 - 8 * r) ≤ t3 n w := Nat.div_le_self _ _
 generalize t3 n w / 2 ^ (56 - 8 * r) = y at hd
 have : (2 : Nat) ^ 8 = 256 := rfl
 have h56 : (2 : Nat) ^ 56 = 72057594037927936 := rfl
 rw [this,h56]
 omega
theorem lN {n w w' r : Nat} (hr : r < 8) (hne : w' ≠ w) : rN n w' (8 * w + r + 1) = rN n w' (8 * w + r) := by
 unfold rN
 rw [show min 8 (8 * w + r + 1 - 8 * w') = min 8 (8 * w + r - 8 * w') by omega]
theorem aPM {n w r : Nat} (hw : w < 4) (hr : r < 8) : (stF n (8 * w + r)).set (3 - w) ((2 ^ 8 * rN n w (8 * w + r) + t3 n w / 2 ^ (56 - 8 * r) % 256 : Nat) : Int) = stF n (8 * w + r + 1) := by
 rw [← (aHv hr).1]
 match w,hw with
 | 0,_ => simp only [stF]; rw [lN (w' := 1) hr (by decide),lN (w' := 2) hr (by decide),lN (w' := 3) hr (by decide)]; rfl
 | 1,_ => simp only [stF]; rw [lN (w' := 0) hr (by decide),lN (w' := 2) hr (by decide),lN (w' := 3) hr (by decide)]; rfl
 | 2,_ => simp only [stF]; rw [lN (w' := 1) hr (by decide),lN (w' := 0) hr (by decide),lN (w' := 3) hr (by decide)]; rfl
 | 3,_ => simp only [stF]; rw [lN (w' := 1) hr (by decide),lN (w' := 2) hr (by decide),lN (w' := 0) hr (by decide)]; rfl
theorem aTF (n : Nat) : stF n 0 = [0,0,0,0] := by
 have h : ∀ w,rN n w 0 = 0 := fun w => by
  unfold rN
  rw [show 64 - 8 * min 8 (0 - 8 * w) = 64 by omega]
  exact Nat.div_eq_of_lt (by have := aGE n w; exact this)
 simp only [stF,h]; rfl
theorem aR5 (n : Nat) : stF n 32 = U n := by
 have h : ∀ w,w < 4 → rN n w 32 = t3 n w := fun w hw => by
  unfold rN
  rw [show 64 - 8 * min 8 (32 - 8 * w) = 0 by omega]
  simp
 rw [aLQ]; simp only [stF]; rw [h 0 (by decide),h 1 (by decide),h 2 (by decide),h 3 (by decide)]
section
variable {N : Nat} (hN : 70000 ≤ N)
include hN
theorem aJu (n : Nat) : ∀ (m j : Nat),32 - j < m → j ≤ 32 → fF N (bT n) m (j : Int) (stF n j) = some (U n)
 | 0,j,hm,_ => by omega
 | m + 1,j,hm,hj => by
  rw [fF]
  by_cases hh : j < 32
  ·have hb : bJ 32 (bT n) (j : Int) = some (byG n j) := by
    rw [cY hh (by rw [bZ]; exact hh)]; simp [bT]
   have hw : j / 8 < 4 := by omega
   have hr : j % 8 < 8 := by omega
   have hg : bJ 4 (stF n j) ((3 - j / 8 : Nat) : Int) = some ((rN n (j / 8) j : Nat) : Int) := by
    rw [cY (show 3 - j / 8 < 4 by omega) (by simp [stF]; omega)]
    have := aQi n j (j / 8) hw
    rw [List.getElem?_eq_getElem (by simp [stF]; omega)] at this
    exact this
   rw [show decide ((j : Int) < 32) = true from decide_eq_true (by omega),if_pos rfl,hb,show (8 : Int) = ((8 : Nat) : Int) from rfl,sS,cG (a := ((j / 8 : Nat) : Int)) (by omega) (by omega),cG (a := 3 - ((j / 8 : Nat) : Int)) (by omega) (by omega),show 3 - ((j / 8 : Nat) : Int) = ((3 - j / 8 : Nat) : Int) by omega]
   simp only [Option.bind_some,hg]
   have ej : j = 8 * (j / 8) + j % 8 := by omega
   obtain ⟨p1,p2⟩ := aHv (n := n) (w := j / 8) hr
   rw [← ej] at p1 p2
   have hs : shl .u64 ((rN n (j / 8) j : Nat) : Int) ((8 : Nat) : Int) = some ((2 ^ 8 * rN n (j / 8) j : Nat) : Int) := by
    unfold shl
    rw [if_neg (by omega),show min (Int.toNat ((8 : Nat) : Int)) IntKind.u64.bits = 8 from rfl,show ((rN n (j / 8) j : Nat) : Int) * 2 ^ 8 = ((2 ^ 8 * rN n (j / 8) j : Nat) : Int) by rw [Nat.mul_comm]; simp,wZ (by omega) (by omega)]
   rw [hs]
   simp only [Option.bind_some]
   have hbt : t3 n (j / 8) / 2 ^ (56 - 8 * (j % 8)) % 256 < 2 ^ 8 := Nat.mod_lt _ (by decide)
   rw [aG2 n j hh,wZ (by omega) (by have := hbt; omega),wE rfl _ _ (by show _ < 2 ^ 64; omega) (by show _ < 2 ^ 64; omega),← Nat.two_pow_add_eq_or_of_lt hbt]
   have := aPM (n := n) hw hr
   rw [← ej] at this
   rw [Int.toNat_natCast,this,i1 (show j ≤ 100000 by omega)]
   exact aJu n m (j + 1) (by omega) (by omega)
  ·obtain rfl : j = 32 := by omega
   rw [show decide (((32 : Nat) : Int) < 32) = false from rfl,aR5]
   rfl
theorem aAF (n : Nat) : fO N (bT n) = some (U n) := by
 have := aJu hN n N 0 (by omega) (by omega)
 rw [aTF,show ((0 : Nat) : Int) = 0 from rfl] at this
 simp only [fO,cR (bZ n),Option.bind_some,r40,this,nH,bI]
end
theorem aOS : ∀ j < 32,IntKind.i64.wrap (Int.tdiv (IntKind.i64.wrap (31 - ((j : Nat) : Int))) 8) = IntKind.i64.wrap (3 - IntKind.i64.wrap (Int.tdiv ((j : Nat) : Int) 8)) ∧ IntKind.i64.wrap (8 * (Int.tmod (IntKind.i64.wrap (31 - ((j : Nat) : Int))) 8)) = IntKind.i64.wrap (56 - IntKind.i64.wrap (Int.tmod ((j : Nat) : Int) 8 * 8)) := by decide +kernel
theorem aMT (N : Nat) (a : List Int) : ∀ (m j : Nat) (l : List Int),j ≤ 32 → jW N a m (j : Int) l = jI N a m (j : Int) l
 | 0,_,_,_ => rfl
 | m + 1,j,l,hj => by
  unfold jW jI
  by_cases h : j < 32
  ·have hw : IntKind.i64.wrap ((j : Int) + 1) = ((j + 1 : Nat) : Int) := by rw [cG (by omega) (by omega)]; omega
   rw [(aOS j h).1,(aOS j h).2,hw]
   simp only [aMT N a m (j + 1) _ (by omega)]
  ·rw [if_neg (by simp; omega),if_neg (by simp; omega)]
theorem aJJ (N : Nat) (hN : 70000 ≤ N) (n : Nat) : s9 N (U n) = some (bT n) := by
 have h := aHt hN n
 unfold sL at h
 unfold s9
 rw [show jW N (U n) N 0 (List.replicate 32 0) = _ from aMT N (U n) N 0 _ (by omega)]
 exact h
theorem aCu (N : Nat) (hN : 70000 ≤ N) (n : Nat) : kT N (U n) = some (bT n) := by
 unfold kT
 rw [bI,Option.bind_some,aJJ N hN,Option.bind_some,vP (bZ n),Option.bind_some]
def qwN (n w j : Nat) : Nat := 2 ^ (64 - 8 * min 8 (j - 8 * w)) * rN n w j
def stQ (n j : Nat) : List Int := [(qwN n 3 j : Int),(qwN n 2 j : Int),(qwN n 1 j : Int),(qwN n 0 j : Int)]
theorem aPI (n j w : Nat) (hw : w < 4) : (stQ n j)[3 - w]? = some ((qwN n w j : Nat) : Int) := by
 match w,hw with
 | 0,_ => rfl
 | 1,_ => rfl
 | 2,_ => rfl
 | 3,_ => rfl
theorem aSa (n w j : Nat) : qwN n w j < 2 ^ 64 := Nat.lt_of_le_of_lt (Nat.mul_div_le _ _) (aGE n w)
theorem aQw {n w r : Nat} (hr : r < 8) : qwN n w (8 * w + r + 1) = 2 ^ (64 - 8 * r) * rN n w (8 * w + r) + 2 ^ (56 - 8 * r) * (t3 n w / 2 ^ (56 - 8 * r) % 256) ∧ qwN n w (8 * w + r) = 2 ^ (64 - 8 * r) * rN n w (8 * w + r) := by
 have e1 : 64 - 8 * min 8 (8 * w + r + 1 - 8 * w) = 56 - 8 * r := by omega
 have e2 : 64 - 8 * min 8 (8 * w + r - 8 * w) = 64 - 8 * r := by omega
 unfold qwN
 rw [e1,e2,(aHv hr).1,Nat.mul_add,← Nat.mul_assoc,← Nat.pow_add,show 56 - 8 * r + 8 = 64 - 8 * r by omega]
 exact ⟨rfl,rfl⟩
theorem nG {n w w' r : Nat} (hr : r < 8) (hne : w' ≠ w) : qwN n w' (8 * w + r + 1) = qwN n w' (8 * w + r) := by
 unfold qwN
 rw [lN hr hne,show min 8 (8 * w + r + 1 - 8 * w') = min 8 (8 * w + r - 8 * w') by omega]
theorem aOJ {n w r : Nat} (hw : w < 4) (hr : r < 8) : (stQ n (8 * w + r)).set (3 - w) ((qwN n w (8 * w + r + 1) : Nat) : Int) = stQ n (8 * w + r + 1) := by
 match w,hw with
 | 0,_ => simp only [stQ]; rw [nG (w' := 1) hr (by decide),nG (w' := 2) hr (by decide),nG (w' := 3) hr (by decide)]; rfl
 | 1,_ => simp only [stQ]; rw [nG (w' := 0) hr (by decide),nG (w' := 2) hr (by decide),nG (w' := 3) hr (by decide)]; rfl
 | 2,_ => simp only [stQ]; rw [nG (w' := 1) hr (by decide),nG (w' := 0) hr (by decide),nG (w' := 3) hr (by decide)]; rfl
 | 3,_ => simp only [stQ]; rw [nG (w' := 1) hr (by decide),nG (w' := 2) hr (by decide),nG (w' := 0) hr (by decide)]; rfl
theorem aRY (n : Nat) : stQ n 0 = [0,0,0,0] := by
 have h : ∀ w,qwN n w 0 = 0 := fun w => by
  unfold qwN rN
  rw [show 64 - 8 * min 8 (0 - 8 * w) = 64 by omega,Nat.div_eq_of_lt (by have := aGE n w; exact this)]
 simp only [stQ,h]; rfl
theorem aQZ (n : Nat) : stQ n 32 = U n := by
 have h : ∀ w,w < 4 → qwN n w 32 = t3 n w := fun w hw => by
  unfold qwN rN
  rw [show 64 - 8 * min 8 (32 - 8 * w) = 0 by omega]
  simp
 rw [aLQ]; simp only [stQ]; rw [h 0 (by decide),h 1 (by decide),h 2 (by decide),h 3 (by decide)]
section
variable {N : Nat} (hN : 70000 ≤ N)
include hN
theorem aJS (n : Nat) : ∀ (m j : Nat),32 - j < m → j ≤ 32 → iH N (bT n) m (j : Int) (stQ n j) = some (U n)
 | 0,j,hm,_ => by omega
 | m + 1,j,hm,hj => by
  rw [iH]
  by_cases hh : j < 32
  ·have hb : bJ 32 (bT n) (j : Int) = some (byG n j) := by
    rw [cY hh (by rw [bZ]; exact hh)]; simp [bT]
   have hw : j / 8 < 4 := by omega
   have hr : j % 8 < 8 := by omega
   have hg : bJ 4 (stQ n j) ((3 - j / 8 : Nat) : Int) = some ((qwN n (j / 8) j : Nat) : Int) := by
    rw [cY (show 3 - j / 8 < 4 by omega) (by simp [stQ]; omega)]
    have := aPI n j (j / 8) hw
    rw [List.getElem?_eq_getElem (by simp [stQ]; omega)] at this
    exact this
   have i1' : IntKind.i64.wrap (Int.tdiv (IntKind.i64.wrap (31 - (j : Int))) 8) = ((3 - j / 8 : Nat) : Int) := by
    rw [show 31 - (j : Int) = ((31 - j : Nat) : Int) by omega,cG (a := ((31 - j : Nat) : Int)) (by omega) (by omega),show (8 : Int) = ((8 : Nat) : Int) from rfl,sS,cG (by omega) (by omega),show (31 - j) / 8 = 3 - j / 8 by omega]
   have i2' : IntKind.i64.wrap (8 * (Int.tmod (IntKind.i64.wrap (31 - (j : Int))) 8)) = ((56 - 8 * (j % 8) : Nat) : Int) := by
    rw [show 31 - (j : Int) = ((31 - j : Nat) : Int) by omega,cG (a := ((31 - j : Nat) : Int)) (by omega) (by omega),show (Int.tmod ((31 - j : Nat) : Int) 8) = (((31 - j) % 8 : Nat) : Int) from sU _ 8,cG (by omega) (by omega)]
    omega
   rw [show decide ((j : Int) < 32) = true from decide_eq_true (by omega),if_pos rfl,i1',i2',hg,Option.bind_some,hb,Option.bind_some]
   have ej : j = 8 * (j / 8) + j % 8 := by omega
   obtain ⟨p1,p2⟩ := aQw (n := n) (w := j / 8) hr
   rw [← ej] at p1 p2
   have hbt : t3 n (j / 8) / 2 ^ (56 - 8 * (j % 8)) % 256 < 256 := Nat.mod_lt _ (by decide)
   rw [aG2 n j hh,wZ (by omega) (by omega),aC7 (k := .u64) rfl,Option.bind_some]
   have hlt : 2 ^ (56 - 8 * (j % 8)) * (t3 n (j / 8) / 2 ^ (56 - 8 * (j % 8)) % 256) < 2 ^ (64 - 8 * (j % 8)) := by
    have h8 : 2 ^ (64 - 8 * (j % 8)) = 2 ^ (56 - 8 * (j % 8)) * 256 := by rw [show 64 - 8 * (j % 8) = 56 - 8 * (j % 8) + 8 by omega,Nat.pow_add]
    rw [h8]
    exact (Nat.mul_lt_mul_left (Nat.pow_pos (by omega))).2 hbt
   have hle : 2 ^ (64 - 8 * (j % 8)) ≤ 2 ^ 64 := Nat.pow_le_pow_right (by omega) (by omega)
   have hval : t3 n (j / 8) / 2 ^ (56 - 8 * (j % 8)) % 256 * 2 ^ (56 - 8 * (j % 8)) % 2 ^ IntKind.u64.bits = 2 ^ (56 - 8 * (j % 8)) * (t3 n (j / 8) / 2 ^ (56 - 8 * (j % 8)) % 256) := by
    rw [Nat.mul_comm]
    exact Nat.mod_eq_of_lt (Nat.lt_of_lt_of_le hlt hle)
   rw [hval,wE (k := .u64) rfl _ _ (aSa n (j / 8) j) (Nat.lt_of_lt_of_le hlt hle),p2,← Nat.two_pow_add_eq_or_of_lt hlt,← p1]
   have := aOJ (n := n) hw hr
   rw [← ej] at this
   rw [Int.toNat_natCast,this,i1 (show j ≤ 100000 by omega)]
   exact aJS n m (j + 1) (by omega) (by omega)
  ·obtain rfl : j = 32 := by omega
   rw [show decide (((32 : Nat) : Int) < 32) = false from rfl,aQZ]
   rfl
theorem aJU (n : Nat) : pS N (bT n) = some (U n) := by
 have := aJS hN n N 0 (by omega) (by omega)
 rw [aRY,show ((0 : Nat) : Int) = 0 from rfl] at this
 simp only [pS,Option.bind_some,r40,this,pT,bI]
theorem aEb {n : Nat} (hn : n < 115792089237316195423570985008687907853269984665640564039457584007913129639936) : hY N (bT n) = some (U (n % 57896044618658097711785492504343953926634992332820282019728792003956564801911)) := by
 unfold hY
 rw [vP (bZ n),Option.bind_some,aJU hN,Option.bind_some,← wF,aD3 hN hn (by omega),Option.bind_some,bI,Option.bind_some,Nat.add_zero]
theorem aOH {n : Nat} (hn : n < 115792089237316195423570985008687907853269984665640564039457584007913129639936) : oN N (bT n) = some (U (n % 57896044618658097711785492504343953926634992332820282019728792003956564801911)) := by
 unfold oN mW
 rw [vP (bZ n),Option.bind_some,aAF hN,Option.bind_some,← wF,bI,Option.bind_some,bI,Option.bind_some,aBU,Option.bind_some,aI1 hN (by omega) (by omega) hn (by omega),Option.bind_some,bI,Option.bind_some,Option.bind_some,bI,Option.bind_some,Nat.add_zero]
end
section
variable (N : Nat) (b : List Nat) (hl : b.length = 64) (hb : ∀ x ∈ b,x < 256)
include hl hb
theorem aTg (hN : 70000 ≤ N) : fE N (iN b) N 0 (List.replicate 64 0) = some (aDB b 0 (List.replicate 64 0)) := by
 refine aHf b (f := fE N (iN b)) (fun m j l hj hll hz => ?_) (fun m l => by rw [fE]; rfl) N 0 _ (by omega) (by omega) (by simp) (fun i _ hi => by rw [List.getElem?_replicate,if_pos hi])
 have g0 := xM hb (4 * j)
 have g1 := xM hb (4 * j + 1)
 have g2 := xM hb (4 * j + 2)
 have g3 := xM hb (4 * j + 3)
 rw [fE,show decide ((j : Int) < 16) = true from decide_eq_true (by omega),if_pos rfl]
 rw [cG (a := 4 * (j : Int)) (by omega) (by omega),cG (a := 4 * (j : Int) + 1) (by omega) (by omega),cG (a := 4 * (j : Int) + 2) (by omega) (by omega),cG (a := 4 * (j : Int) + 3) (by omega) (by omega)]
 rw [show 4 * (j : Int) = ((4 * j : Nat) : Int) by omega,show ((4 * j : Nat) : Int) + 1 = ((4 * j + 1 : Nat) : Int) by omega,show ((4 * j : Nat) : Int) + 2 = ((4 * j + 2 : Nat) : Int) by omega,show ((4 * j : Nat) : Int) + 3 = ((4 * j + 3 : Nat) : Int) by omega]
 rw [aEh hl (by omega),aEh hl (by omega),aEh hl (by omega),aEh hl (by omega),cY (show j < 64 by omega) (by omega)]
 rw [show (24 : Int) = ((24 : Nat) : Int) from rfl,show (16 : Int) = ((16 : Nat) : Int) from rfl,show (8 : Int) = ((8 : Nat) : Int) from rfl]
 simp only [Option.bind_some,Int.toNat_natCast,i1 (show j ≤ 100000 by omega),aEU _ (show b.getD (4 * j) 0 < 4294967296 by omega),aEU _ (show b.getD (4 * j + 1) 0 < 4294967296 by omega),aEU _ (show b.getD (4 * j + 2) 0 < 4294967296 by omega),aEU _ (show b.getD (4 * j + 3) 0 < 4294967296 by omega),aQQ]
 congr 2
 unfold wd
 generalize b.getD (4 * j) 0 = a0 at *
 generalize b.getD (4 * j + 1) 0 = a1 at *
 generalize b.getD (4 * j + 2) 0 = a2 at *
 generalize b.getD (4 * j + 3) 0 = a3 at *
 rw [Nat.mod_eq_of_lt (show a0 * 2 ^ 24 < 4294967296 by omega),Nat.mod_eq_of_lt (show a1 * 2 ^ 16 < 4294967296 by omega),Nat.mod_eq_of_lt (show a2 * 2 ^ 8 < 4294967296 by omega)]
 rw [orU _ _ (by omega) (by omega),aG0 a0 _ 24 (by omega)]
 rw [show a0 * 2 ^ 24 + a1 * 2 ^ 16 = (a0 * 2 ^ 8 + a1) * 2 ^ 16 by omega,orU _ _ (by omega) (by omega),aG0 _ (a2 * 2 ^ 8) 16 (by omega)]
 rw [show (a0 * 2 ^ 8 + a1) * 2 ^ 16 + a2 * 2 ^ 8 = ((a0 * 2 ^ 8 + a1) * 2 ^ 8 + a2) * 2 ^ 8 by omega,orU _ _ (by omega) (by omega),aG0 _ a3 8 (by omega)]
end
theorem aIk (N : Nat) (x n : Int) : iL N x n = cX N x n := rfl
theorem aK6 (N : Nat) : ∀ (m : Nat) (i : Int) (l : List Int),iY N m i l = gO N m i l
 | 0,_,_ => rfl
 | m + 1,i,l => by simp only [iY,gO,aIk,aK6 N m]
theorem aJp (N : Nat) (st w : List Int) : ∀ (m : Nat) (a b c d e f g h i : Int),iV N st w aCF m a b c d e f g h i = gR N st w m a b c d e f g h i
 | 0,_,_,_,_,_,_,_,_,_ => rfl
 | m + 1,a,b,c,d,e,f,g,h,i => by simp only [iV,gR,aIk,aJp N st w m]
section
variable (N : Nat) (hN : 70000 ≤ N) (b : List Nat) (hl : b.length = 64) (hb : ∀ x ∈ b,x < 256)
include hN hl hb
theorem aMf : rY N (iN b) = oK N (iN b) := by
 simp only [rY,oK,aTg N b hl hb hN,sL4 N b hl hb hN,Option.bind_some,rB,qC,aK6,rA,pU]
theorem aIG (st : List Int) : nZ N st (iN b) = k5 N st (iN b) := by
 obtain ⟨w,h1,h2⟩ := aOX N hN b hl hb
 have hK : t0 N = some aCF := rfl
 have hKl : aX 64 aCF = some aCF := rfl
 simp only [nZ,k5,aMf N hN b hl hb,h1,hK,hKl,Option.bind_some,aJp,rC,pV]
end
theorem aH4 (N n : Nat) : ∀ (k m : Nat) (acc : List Int),k ≤ 8 → k < m → acc.length + k ≤ 1000 → mD N (n : Int) m ((k : Int) - 1) acc = some (acc ++ (List.range' (8 - k) k).map (beG n))
 | 0,m,acc,_,hm,_ => by
  obtain ⟨m,rfl⟩ : ∃ q,m = q + 1 := ⟨m - 1,by omega⟩
  rw [mD,show decide ((0 : Int) ≤ ((0 : Nat) : Int) - 1) = false from rfl]; simp
 | k + 1,m,acc,hk,hm,ha => by
  obtain ⟨m,rfl⟩ : ∃ q,m = q + 1 := ⟨m - 1,by omega⟩
  rw [mD,show decide ((0 : Int) ≤ ((k + 1 : Nat) : Int) - 1) = true from decide_eq_true (by omega),if_pos rfl]
  rw [cG (a := 8 * (((k + 1 : Nat) : Int) - 1)) (by omega) (by omega),show 8 * (((k + 1 : Nat) : Int) - 1) = ((56 - 8 * (8 - (k + 1)) : Nat) : Int) by omega,aLl _ _ (by omega)]
  simp only [Option.bind_some]
  rw [j7 (by simp; omega)]
  simp only [Option.bind_some]
  rw [cG (a := ((k + 1 : Nat) : Int) - 1 - 1) (by omega) (by omega),show ((k + 1 : Nat) : Int) - 1 - 1 = (k : Int) - 1 by omega,aH4 N n k m _ (by omega) (by omega) (by simp; omega),List.range'_succ,List.map_cons,show 8 - (k + 1) + 1 = 8 - k by omega,List.append_assoc]
  rfl
theorem aH0 (N n : Nat) (hn : n ≤ 1000000000) : ∀ (z m : Nat) (l : List Int),z < 64 → z < m → l.length + z ≤ 1000 → (n + l.length + 8 + z) % 64 = 0 → oF N (n : Int) m l = some (l ++ List.replicate z 0)
 | z,0,l,_,hm,_,_ => by omega
 | z,m + 1,l,hz,hm,hl,he => by
  rw [oF,wZ (a := (l.length : Int)) (by omega) (by omega),wZ (a := (n : Int) + (l.length : Int)) (by omega) (by omega),wZ (a := (n : Int) + (l.length : Int) + 8) (by omega) (by omega)]
  rw [show (n : Int) + (l.length : Int) + 8 = ((n + l.length + 8 : Nat) : Int) by omega,show (64 : Int) = ((64 : Nat) : Int) from rfl,sU]
  match z with
  | 0 =>
   rw [show (n + l.length + 8) % 64 = 0 by simpa using he]
   simp
  | z + 1 =>
   have hne : (n + l.length + 8) % 64 ≠ 0 := by omega
   rw [show ((((n + l.length + 8) % 64 : Nat) : Int) != 0) = true by simp; omega,if_pos rfl,j7 (by simp; omega)]
   simp only [Option.bind_some]
   rw [aH0 N n hn z m _ (by omega) (by omega) (by simp; omega) (by simp; omega),List.replicate_succ,List.append_assoc]
   rfl
theorem aSF (N : Nat) (hN : 70000 ≤ N) (n : Nat) (hn : n ≤ 1000000000) : aAT N (n : Int) = some (uU n) := by
 have hz : xL n < 64 := Nat.mod_lt _ (by omega)
 have h2 : (n + 1 + 8 + xL n) % 64 = 0 := by unfold xL; omega
 unfold aAT
 rw [aH0 N n hn (xL n) N [128] hz (by omega) (by simp; omega) (by simpa using h2)]
 simp only [Option.bind_some,y4]
 have := aH4 N n 8 N ([128] ++ List.replicate (xL n) 0) (by omega) (by omega) (by simp; omega)
 rw [show ((8 : Nat) : Int) - 1 = 7 from rfl] at this
 rw [this]; rfl
section
variable (N : Nat) (hN : 70000 ≤ N) (msg : List Int) (hb : Byt msg) (hl : msg.length ≤ 2000000)
include hN hb hl
theorem aH8 : ∀ (m j : Nat) (st : List Int),msg.length / 64 - j < m → j ≤ msg.length / 64 → st.length = 8 → oM N msg m ((64 * j : Nat) : Int) st = some (v5 N msg st j (msg.length / 64 - j))
 | 0,j,st,hm,_,_ => by omega
 | m + 1,j,st,hm,hj,hst => by
  rw [oM,cG (a := ((64 * j : Nat) : Int) + 64) (by omega) (by omega)]
  by_cases h : j < msg.length / 64
  ·have hlen : (tX msg j).length = 64 := by simp [tX]; omega
   obtain ⟨c1,c2⟩ := aNb N hN st (tX msg j) hst (aDI (aDt hb _) _) hlen
   have c3 : nZ N st (tX msg j) = some (cmp N st (tX msg j)) := by
    obtain ⟨bn,e1,e2⟩ := aKR (aDI (aDt hb (64 * j)) 64)
    have e3 : tX msg j = iN bn := e1
    rw [e3] at c1 hlen ⊢
    rw [aIG N hN bn (by rw [aGJ] at hlen; exact hlen) e2]
    exact c1
   rw [show decide (((64 * j : Nat) : Int) + 64 ≤ (msg.length : Int)) = true from decide_eq_true (by omega),if_pos rfl]
   have e1 : sub msg ((64 * j : Nat) : Int) (msg.length : Int) = some (msg.drop (64 * j)) := by
    unfold sub
    rw [if_pos ⟨by omega,by omega,by omega⟩,Int.toNat_natCast,Int.toNat_natCast,List.take_of_length_le (Nat.le_refl _)]
   have e2 : cpy (List.replicate 64 (0 : Int)) (msg.drop (64 * j)) = tX msg j := by
    unfold cpy tX
    rw [List.length_replicate,show List.drop (msg.drop (64 * j)).length (List.replicate 64 (0 : Int)) = [] from List.drop_eq_nil_of_le (by simp; omega),List.append_nil]
   simp only [e1,e2,Option.bind_some,cR hst,cR hlen,c3,cR c2]
   rw [show ((64 * j : Nat) : Int) + 64 = ((64 * (j + 1) : Nat) : Int) by omega,aH8 m (j + 1) _ (by omega) (by omega) c2]
   unfold v5
   rw [show msg.length / 64 - j = (msg.length / 64 - (j + 1)) + 1 by omega,List.range'_succ,List.foldl_cons]
  ·rw [show decide (((64 * j : Nat) : Int) + 64 ≤ (msg.length : Int)) = false from decide_eq_false (by omega),show msg.length / 64 - j = 0 by omega]
   rfl
end
section
variable (N : Nat) (hN : 70000 ≤ N) (st : List Int) (hst : st.length = 8)
include hN hst
theorem aHK : ∀ (m j : Nat),8 - j < m → j ≤ 8 → oX N st m (j : Int) ((List.range (4 * j)).map (u4 st) ++ List.replicate (32 - 4 * j) 0) = some (aDn st)
 | 0,j,hm,_ => by omega
 | m + 1,j,hm,hj => by
  rw [oX]
  by_cases h : j < 8
  ·rw [show decide ((j : Int) < 8) = true from decide_eq_true (by omega),if_pos rfl,aQU hst h]
   rw [cG (a := 4 * (j : Int)) (by omega) (by omega),cG (a := 4 * (j : Int) + 1) (by omega) (by omega),cG (a := 4 * (j : Int) + 2) (by omega) (by omega),cG (a := 4 * (j : Int) + 3) (by omega) (by omega)]
   rw [show 4 * (j : Int) = ((4 * j : Nat) : Int) by omega,show ((4 * j : Nat) : Int) + 1 = ((4 * j + 1 : Nat) : Int) by omega,show ((4 * j : Nat) : Int) + 2 = ((4 * j + 2 : Nat) : Int) by omega,show ((4 * j : Nat) : Int) + 3 = ((4 * j + 3 : Nat) : Int) by omega]
   rw [show (24 : Int) = ((24 : Nat) : Int) from rfl,show (16 : Int) = ((16 : Nat) : Int) from rfl]
   simp only [Option.bind_some,Int.toNat_natCast,i1 (show j ≤ 100000 by omega)]
   rw [show (8 : Int) = ((8 : Nat) : Int) from rfl,aII _ 24 (by omega),aII _ 16 (by omega),aII _ 8 (by omega)]
   simp only [Option.bind_some]
   have o0 : IntKind.u8.wrap ((st.getD j 0).fdiv (2 ^ 24)) = u4 st (4 * j) := by unfold u4; rw [show 4 * j / 4 = j by omega,show 4 * j % 4 = 0 by omega]
   have o1 : IntKind.u8.wrap ((st.getD j 0).fdiv (2 ^ 16)) = u4 st (4 * j + 1) := by unfold u4; rw [show (4 * j + 1) / 4 = j by omega,show (4 * j + 1) % 4 = 1 by omega]
   have o2 : IntKind.u8.wrap ((st.getD j 0).fdiv (2 ^ 8)) = u4 st (4 * j + 2) := by unfold u4; rw [show (4 * j + 2) / 4 = j by omega,show (4 * j + 2) % 4 = 2 by omega]
   have o3 : IntKind.u8.wrap (st.getD j 0) = u4 st (4 * j + 3) := by
    unfold u4; rw [show (4 * j + 3) / 4 = j by omega,show (4 * j + 3) % 4 = 3 by omega]
    congr 1
    generalize st.getD j 0 = x
    simp
   rw [o0,o1,o2,o3,xY (u4 st) 32 (4 * j) (by omega),xY (u4 st) 32 (4 * j + 1) (by omega),xY (u4 st) 32 (4 * j + 2) (by omega),xY (u4 st) 32 (4 * j + 3) (by omega)]
   rw [cY (show 4 * j < 32 by omega) (by simp; omega),cY (show 4 * j + 1 < 32 by omega) (by simp; omega),cY (show 4 * j + 2 < 32 by omega) (by simp; omega),cY (show 4 * j + 3 < 32 by omega) (by simp; omega)]
   simp only [Option.bind_some]
   exact aHK m (j + 1) (by omega) (by omega)
  ·obtain rfl : j = 8 := by omega
   rw [show decide (((8 : Nat) : Int) < 8) = false from rfl]
   simp [aDn]
end
theorem aKV (N : Nat) (hN : 70000 ≤ N) (b : List Int) (hb : Byt b) (hl : b.length ≤ 1000000) : xQ N b = some (sha256 N b) := by
 have hz : xL b.length < 64 := Nat.mod_lt _ (by omega)
 have hpl := aJ0 b.length
 have hmb : Byt (b ++ uU b.length) := hb.append (aJ7 _)
 have hml : (b ++ uU b.length).length ≤ 2000000 := by rw [List.length_append]; omega
 obtain ⟨s1,s2⟩ := aFS N hN _ hmb hml N 0 vV (by omega) (by omega) rfl
 have s3 := aH8 N hN _ hmb hml N 0 vV (by omega) (by omega) rfl
 rw [Nat.sub_zero] at s2
 rw [show ((64 * 0 : Nat) : Int) = 0 from rfl,Nat.sub_zero] at s3
 have hw : IntKind.u64.wrap (b.length : Int) = (b.length : Int) := wZ (by omega) (by omega)
 have o := aHK N hN (v5 N (b ++ uU b.length) vV 0 ((b ++ uU b.length).length / 64)) s2 N 0 (by omega) (by omega)
 simp only [Nat.mul_zero,List.range_zero,List.map_nil,List.nil_append,Nat.sub_zero] at o
 rw [show ((0 : Nat) : Int) = 0 from rfl] at o
 have hI : wT N = some vV := rfl
 have hIa : aX 8 vV = some vV := rfl
 simp only [xQ]
 rw [j7 (by simp; omega)]
 simp only [Option.bind_some,List.nil_append,hw,aSF N hN b.length (by omega)]
 rw [j7 (by omega)]
 simp only [Option.bind_some,hI,hIa,s3,y6,cR s2,o,zY,cR (aFQ _)]
 rfl
theorem aGi (N : Nat) (hN : 70000 ≤ N) (tag : ByteArray) (ht : tag.size ≤ 1000) (b : List Int) (hb : Byt b) (hl : b.length ≤ 900000) : rP N tag b = some (vX N tag b) := by
 have hlim := lP
 have hs : stb tag = some (eR tag) := by unfold stb; rw [if_pos (by omega)]
 have s2 := aKV N hN (eR tag) (aFl tag) (by rw [wK]; omega)
 have l1 := mC N (eR tag)
 have t2 := aKV N hN (sha256 N (eR tag) ++ (sha256 N (eR tag) ++ b)) ((nP _ _).append ((nP _ _).append hb)) (by simp only [List.length_append,l1]; omega)
 simp only [rP,hs,s2,Option.bind_some,cR l1]
 rw [j7 (by simp [l1])]
 simp only [Option.bind_some,List.nil_append]
 rw [j7 (by simp [l1])]
 simp only [Option.bind_some]
 rw [j7 (by simp [l1]; omega)]
 simp only [Option.bind_some,List.append_assoc,t2,cR (mC N _)]
 rfl
def vG (f : Nat → Nat) (w : Nat) : Nat := f (8 * w) * 72057594037927936 + f (8 * w + 1) * 281474976710656 + f (8 * w + 2) * 1099511627776 + f (8 * w + 3) * 4294967296 + f (8 * w + 4) * 16777216 + f (8 * w + 5) * 65536 + f (8 * w + 6) * 256 + f (8 * w + 7)
theorem sT {f : Nat → Nat} (hf : ∀ i,f i < 256) (w : Nat) : vG f w < 18446744073709551616 ∧ ∀ r,r < 8 → vG f w / 2 ^ (56 - 8 * r) % 256 = f (8 * w + r) := by
 have h0 := hf (8 * w)
 have h1 := hf (8 * w + 1)
 have h2 := hf (8 * w + 2)
 have h3 := hf (8 * w + 3)
 have h4 := hf (8 * w + 4)
 have h5 := hf (8 * w + 5)
 have h6 := hf (8 * w + 6)
 have h7 := hf (8 * w + 7)
 unfold vG
 refine ⟨by omega,fun r hr => ?_⟩
 match r,hr with
 | 0,_ => show _ / 72057594037927936 % 256 = f (8 * w); omega
 | 1,_ => show _ / 281474976710656 % 256 = _; omega
 | 2,_ => show _ / 1099511627776 % 256 = _; omega
 | 3,_ => show _ / 4294967296 % 256 = _; omega
 | 4,_ => show _ / 16777216 % 256 = _; omega
 | 5,_ => show _ / 65536 % 256 = _; omega
 | 6,_ => show _ / 256 % 256 = _; omega
 | 7,_ => show _ / 1 % 256 = _; omega
def byF (h : List Int) (i : Nat) : Nat := ((h.getD i 0).toNat) % 256
def aAI (h : List Int) : Nat := vl (vG (byF h) 3) (vG (byF h) 2) (vG (byF h) 1) (vG (byF h) 0)
theorem zZ (h : List Int) (i : Nat) : byF h i < 256 := Nat.mod_lt _ (by decide)
theorem aDH (h : List Int) : aAI h < 115792089237316195423570985008687907853269984665640564039457584007913129639936 :=
 aEZ (sT (zZ h) 3).1 (sT (zZ h) 2).1 (sT (zZ h) 1).1 (sT (zZ h) 0).1
theorem aCv {h : List Int} (hl : h.length = 32) (hb : Byt h) : bT (aAI h) = h := by
 have hw : ∀ w,w < 4 → t3 (aAI h) w = vG (byF h) w := by
  have e := aLQ (aAI h)
  rw [show U (aAI h) = w4 (vG (byF h) 3) (vG (byF h) 2) (vG (byF h) 1) (vG (byF h) 0) from (aFN (sT (zZ h) 3).1 (sT (zZ h) 2).1 (sT (zZ h) 1).1 (sT (zZ h) 0).1).symm] at e
  simp only [w4,List.cons.injEq,Int.natCast_inj,and_true] at e
  obtain ⟨e3,e2,e1,e0⟩ := e
  intro w hw
  match w,hw with
  | 0,_ => exact e0.symm
  | 1,_ => exact e1.symm
  | 2,_ => exact e2.symm
  | 3,_ => exact e3.symm
 refine List.ext_getElem (by rw [bZ,hl]) fun i h1 h2 => ?_
 rw [bZ] at h1
 have hg : (bT (aAI h))[i]'(by rw [bZ]; exact h1) = byG (aAI h) i := by simp [bT]
 rw [hg,aG2 _ i h1,hw (i / 8) (by omega),(sT (zZ h) (i / 8)).2 (i % 8) (by omega),show 8 * (i / 8) + i % 8 = i by omega]
 have hx := hb h[i] (List.getElem_mem h2)
 unfold byF
 rw [List.getD_eq_getElem?_getD,List.getElem?_eq_getElem h2,Option.getD_some]
 omega
theorem o7 : gQ < 115792089237316195423570985008687907853269984665640564039457584007913129639936 := by decide +kernel
theorem aGG (a : Nat) : a % gP < 115792089237316195423570985008687907853269984665640564039457584007913129639936 := Nat.lt_trans (Nat.mod_lt _ (by decide +kernel)) (by decide +kernel)
section
variable {N : Nat} (hN : 70000 ≤ N)
include hN
theorem aGl (l : List (List Int)) (hn : l.length ≤ 1000) (ht : l.flatten.length ≤ 40000000) : jG N l = some l.flatten := by
 have := aBK (f := lC N l) l hn (by omega) (fun m j acc hj hB => by
  rw [lC,dT hj,if_pos rfl,b9 l hj,Option.bind_some]
  unfold y8
  rw [show ((acc.length : Int) + (l[j].length : Int)) = ((acc.length + l[j].length : Nat) : Int) by omega,cG (by omega) (by omega),aJh (by have := lP; omega),Option.bind_some,List.take_zero,j7 (by simp; omega),Option.bind_some,List.nil_append,j7 (by omega)]
  simp only [Option.bind_some,i1 (show j ≤ 100000 by omega)]) (fun m j acc hj => by rw [lC,dF (by omega)]; rfl) N hN
 unfold jG
 rw [this]; rfl
def tH (N r p : Nat) (m : List Int) : Nat := aAI (vX N zE (bT r ++ (bT p ++ m))) % gQ
omit hN in
theorem aCN (N r p : Nat) (m : List Int) : tH N r p m < gQ := Nat.mod_lt _ (by decide)
theorem aKD (r p : Nat) {m : List Int} (hm : m.length = 32) (hb : Byt m) : lM N (U r) (U p) m = some (U (tH N r p m)) := by
 have hs := aOH hN (aDH (vX N zE (bT r ++ (bT p ++ m))))
 rw [aCv (kP N zE _) (nM N zE _)] at hs
 have hrow : xD N [bT r,bT p,m] = some (bT r ++ (bT p ++ m)) := by
  rw [grow hN _ (by simp) (fun x hx => by
   simp only [List.mem_cons,List.not_mem_nil,or_false] at hx
   rcases hx with rfl | rfl | rfl
   ·exact bZ _
   ·exact bZ _
   ·exact hm)]
  simp
 have ht := aEg N hN zE (by decide) (bT r ++ (bT p ++ m)) ((r6 _).append ((r6 _).append hb)) (by simp [bZ,hm])
 simp only [lM,bI,aHt hN,cR hm,cR (bZ _),hrow,Option.bind_some]
 rw [show (⟨#[108,105,103,104,116,99,108,105,101,110,116,47,99,104,97,108,108,101,110,103,101]⟩ : ByteArray) = zE from rfl,ht]
 simp only [Option.bind_some,hs,bI]
 rfl
theorem aB3 (r p : Nat) {m : List Int} (hm : m.length = 32) (hb : Byt m) : kB N (U r) (U p) m = some (U (tH N r p m)) := by
 have hs := aEb hN (aDH (vX N zE (bT r ++ (bT p ++ m))))
 rw [aCv (kP N zE _) (nM N zE _)] at hs
 have hrow : jG N [bT r,bT p,m] = some (bT r ++ (bT p ++ m)) := by
  rw [aGl hN _ (by simp) (by simp [bZ,hm])]
  simp
 have ht := aGi N hN zE (by decide) (bT r ++ (bT p ++ m)) ((r6 _).append ((r6 _).append hb)) (by simp [bZ,hm])
 simp only [kB,bI,aCu N hN,cR hm,hrow,Option.bind_some]
 rw [show (⟨#[108,105,103,104,116,99,108,105,101,110,116,47,99,104,97,108,108,101,110,103,101]⟩ : ByteArray) = zE from rfl,ht]
 simp only [Option.bind_some,hs,bI]
 rfl
theorem aMA {h : List Int} (hl : h.length = 32) (hb : Byt h) : ∃ k,k < gQ ∧ hY N h = some (U k) := by
 have hs := aEb hN (aDH h)
 rw [aCv hl hb] at hs
 exact ⟨_,Nat.mod_lt _ (by decide),hs⟩
theorem aMI (x : Nat) {m : List Int} (hm : m.length = 32) (hb : Byt m) : ∃ k,k < gQ ∧ kA N (U x) m = some (U k) := by
 have hrow : jG N [bT x,m] = some (bT x ++ m) := by
  rw [aGl hN _ (by simp) (by simp [bZ,hm])]
  simp
 have ht := aGi N hN ⟨#[108,105,103,104,116,99,108,105,101,110,116,47,110,111,110,99,101]⟩ (by decide) (bT x ++ m) ((r6 _).append hb) (by simp [bZ,hm])
 obtain ⟨k,hk,hs⟩ := aMA hN (kP N ⟨#[108,105,103,104,116,99,108,105,101,110,116,47,110,111,110,99,101]⟩ (bT x ++ m)) (nM N _ _)
 unfold kA
 simp only [bI,aCu N hN,cR hm,hrow,ht,hs,Option.bind_some,aCS (N := N) (Nat.lt_trans hk o7)]
 by_cases h0 : k = 0
 ·refine ⟨1,by decide +kernel, ?_⟩
  rw [if_pos (decide_eq_true h0)]
  rfl
 ·refine ⟨k,hk, ?_⟩
  rw [if_neg (by simpa using h0)]
end
section
variable {N : Nat} (hN : 70000 ≤ N)
include hN
theorem aNQ {e : Nat} (he : e < 115792089237316195423570985008687907853269984665640564039457584007913129639936) : tA N (U e) = some (U (4 ^ e % gP)) := by
 unfold tA
 rw [show fG N 4 = some (U 4) from rfl,Option.bind_some,bI,Option.bind_some,aE7 hN (by decide +kernel) he,Option.bind_some,bI,Option.bind_some]
theorem aNL (x : Nat) : oZ N (U (4 ^ x % gP)) = some true := by
 have hp := aGG (4 ^ x)
 have h0 : (U (4 ^ x % gP) == [0,0,0,0]) = false := by
  rw [← wF,aCi hp (by decide +kernel)]
  exact decide_eq_false (aQb x)
 have hm : 4 ^ x % gP < gP := Nat.mod_lt _ (by decide +kernel)
 have he := aE7 hN hp o7
 rw [show (4 ^ x % gP) ^ gQ % 115792089237316195423570985008687907853269984665640564039457584007913129603823 = 1 from aO1 x] at he
 unfold oZ
 rw [bI,Option.bind_some,h0]
 simp only [Bool.false_eq_true,if_false]
 rw [aJo,Option.bind_some,y9 hN hp (by decide +kernel),Option.bind_some,aGA,decide_eq_false (Nat.not_le.2 hm)]
 unfold kU
 simp only [Bool.false_eq_true,if_false]
 rw [bI,Option.bind_some,aBU,Option.bind_some,he,Option.bind_some]
 rfl
theorem aK7 {x : Nat} (h1 : 4 ^ x % gP ≠ 1) : pX N (U (4 ^ x % gP)) = some true := by
 unfold pX
 rw [bI,Option.bind_some,show fG N 1 = some (U 1) from rfl,Option.bind_some,bI,Option.bind_some,aCi (aGG _) (by decide +kernel),decide_eq_false h1]
 simp only [Bool.not_false,if_true]
 rw [aNL hN,Option.bind_some]
 rfl
theorem aOf {c s : Nat} (hc : c < gQ) (hs : s < gQ) : qM N (bT c ++ bT s) = some (U c,U s,0) := by
 have hl : (bT c ++ bT s).length = 64 := by simp [bZ]
 have e1 : sub (bT c ++ bT s) 0 32 = some (bT c) := by
  unfold sub
  rw [if_pos ⟨by omega,by omega,by rw [hl]; decide⟩,show Int.toNat 32 = 32 from rfl,List.take_left' (bZ c)]
  rfl
 have e2 : sub (bT c ++ bT s) 32 (((bT c ++ bT s).length : Nat) : Int) = some (bT s) := by
  unfold sub
  rw [if_pos ⟨by omega,by rw [hl]; decide,Int.le_refl _⟩,Int.toNat_natCast,List.take_of_length_le (Nat.le_refl _),show Int.toNat 32 = 32 from rfl,List.drop_left' (bZ c)]
 have a1 : q6 32 (bT c) = some (bT c) := by
  unfold q6
  rw [if_pos (by rw [bZ]; exact Nat.le_refl _),List.take_of_length_le (by rw [bZ]; exact Nat.le_refl _)]
 have a2 : q6 32 (bT s) = some (bT s) := by
  unfold q6
  rw [if_pos (by rw [bZ]; exact Nat.le_refl _),List.take_of_length_le (by rw [bZ]; exact Nat.le_refl _)]
 unfold qM
 rw [if_neg (by rw [hl]; decide),e1,Option.bind_some,a1,Option.bind_some,aAF hN,Option.bind_some,e2,Option.bind_some,a2,Option.bind_some,aAF hN,Option.bind_some,bI,Option.bind_some,bI,Option.bind_some,uP hN (Nat.lt_trans hc o7),Option.bind_some,decide_eq_true (show c < 57896044618658097711785492504343953926634992332820282019728792003956564801911 from hc)]
 simp only [Bool.not_true,Bool.false_eq_true,if_false]
 rw [uP hN (Nat.lt_trans hs o7),Option.bind_some,decide_eq_true (show s < 57896044618658097711785492504343953926634992332820282019728792003956564801911 from hs)]
 rfl
end
theorem aQ7 {N : Nat} (hN : 70000 ≤ N) (l : List (List Int)) (hn : l.length ≤ 1000) (ht : l.flatten.length ≤ 50000000) : sI N l = some l.flatten := by
 have := aBK (f := lB N l) l hn ht (fun m j acc hj hB => by
  rw [lB,dT hj,if_pos rfl,b9 l hj,Option.bind_some,j7 (by omega)]
  simp only [Option.bind_some,i1 (show j ≤ 100000 by omega)]) (fun m j acc hj => by rw [lB,dF (by omega)]; rfl) N hN
 unfold sI
 rw [this]; rfl
def aC3 (m n : Int) : Bool := decide (1 ≤ n) && decide (n ≤ 15) && decide (1 ≤ m) && decide (m ≤ n)
theorem aOL (N : Nat) (m n : Int) : rQ N m n = some (aC3 m n) := by
 unfold rQ aC3 iU
 cases decide (1 ≤ n) <;> cases decide (n ≤ 15) <;> cases decide (1 ≤ m) <;> rfl
def gV (x : Int) (r : List Int) : bC × List Int × Int :=
 if x < 1 ∨ 17 < x then (⟨0,[],0,0⟩,[],80)
 else if x = 1 then
  match r with
  | [] => (⟨0,[],0,0⟩,[],1)
  | n :: r' => if (r'.length : Int) < n then (⟨0,[],0,0⟩,[],1) else (⟨1,r'.take n.toNat,0,0⟩,r'.drop n.toNat,0)
 else if x = 11 then
  match r with
  | m :: n :: r' => if aC3 m n = true then (⟨11,[],m,n⟩,r',0) else (⟨0,[],0,0⟩,[],5)
  | _ => (⟨0,[],0,0⟩,[],1)
 else (⟨x,[],0,0⟩,r,0)
theorem aJ1 {α : Type} (x : α) (l : List α) : b5 (x :: l) 0 = some x := rfl
theorem aTd {α : Type} (x y : α) (l : List α) : b5 (x :: y :: l) 1 = some y := rfl
theorem aS3 {α : Type} (x : α) (l : List α) : sub (x :: l) 1 (((x :: l).length : Nat) : Int) = some l := by
 unfold sub
 rw [if_pos ⟨by omega,by simp; omega,by omega⟩,Int.toNat_natCast,List.take_of_length_le (Nat.le_refl _)]; rfl
theorem aST {α : Type} (x y : α) (l : List α) : sub (x :: y :: l) 2 (((x :: y :: l).length : Nat) : Int) = some l := by
 unfold sub
 rw [if_pos ⟨by omega,by simp; omega,by omega⟩,Int.toNat_natCast,List.take_of_length_le (Nat.le_refl _)]; rfl
theorem aO8 {N : Nat} (hN : 70000 ≤ N) {x : Int} {r : List Int} (hb : Byt (x :: r)) (hl : r.length ≤ 100000) :
  v8 N (x :: r) = some ((gV x r).1.Code,(gV x r).1.Data,(gV x r).1.M,(gV x r).1.N,(gV x r).2.1,(gV x r).2.2) := by
 have hx := hb x (by simp)
 have wx : IntKind.i64.wrap x = x := cG (by omega) (by omega)
 have hk : u7 N x = some (decide (1 ≤ x) && decide (x ≤ 17)) := by
  unfold u7 pZ
  cases decide (1 ≤ x) <;> rfl
 unfold v8 gV
 simp only [aJ1,Option.bind_some,wx,hk,aS3]
 by_cases h0 : x < 1 ∨ 17 < x
 ·rw [if_pos h0]
  have : (decide (1 ≤ x) && decide (x ≤ 17)) = false := by
   rcases h0 with h | h
   ·rw [decide_eq_false (by omega)]; rfl
   ·rw [decide_eq_false (show ¬ x ≤ 17 by omega),Bool.and_false]
  rw [this]; rfl
 ·rw [if_neg h0,show (decide (1 ≤ x) && decide (x ≤ 17)) = true by rw [decide_eq_true (by omega),decide_eq_true (by omega)]; rfl]
  simp only [Bool.not_true,Bool.false_eq_true,if_false]
  by_cases h1 : x = 1
  ·subst h1
   rw [if_pos rfl,show ((1 : Int) == 1) = true from rfl,if_pos rfl]
   match r,hb,hl with
   | [],_,_ => rfl
   | n :: r',hb,hl =>
    have hn := hb n (by simp)
    have wn : IntKind.i64.wrap n = n := cG (by omega) (by omega)
    rw [show ((((n :: r').length : Nat) : Int) == 0) = false by simp; omega]
    simp only [Bool.false_eq_true,if_false,aJ1,Option.bind_some,wn]
    have hl' : r'.length + 1 ≤ 100000 := by simpa using hl
    rw [show (((n :: r').length : Nat) : Int) - 1 = ((r'.length : Nat) : Int) by simp,cG (a := ((r'.length : Nat) : Int)) (by omega) (by omega)]
    by_cases h2 : (r'.length : Int) < n
    ·rw [decide_eq_true h2,if_pos h2]; rfl
    ·rw [decide_eq_false h2,if_neg h2]
     have e1 : sub (n :: r') 1 (IntKind.i64.wrap (1 + n)) = some (r'.take n.toNat) := by
      rw [cG (by omega) (by omega)]
      unfold sub
      rw [if_pos ⟨by omega,by omega,by simp; omega⟩,show (1 + n).toNat = n.toNat + 1 by omega]; rfl
     have e2 : sub (n :: r') (IntKind.i64.wrap (1 + n)) (((n :: r').length : Nat) : Int) = some (r'.drop n.toNat) := by
      rw [cG (by omega) (by omega)]
      unfold sub
      rw [if_pos ⟨by omega,by simp; omega,by omega⟩,show (1 + n).toNat = n.toNat + 1 by omega,Int.toNat_natCast,List.take_of_length_le (Nat.le_refl _)]; rfl
     have e3 : sI N [r'.take n.toNat] = some (r'.take n.toNat) := by
      rw [aQ7 hN _ (by simp) (by simp; omega)]; simp
     simp only [rT,Bool.false_eq_true,if_false,aJ1,Option.bind_some,wn,e1,e2,e3,lL]
     rfl
  ·rw [if_neg h1,show (x == 1) = false by simpa using h1]
   simp only [Bool.false_eq_true,if_false]
   by_cases h2 : x = 11
   ·subst h2
    rw [if_pos rfl,show ((11 : Int) == 11) = true from rfl,if_pos rfl]
    match r,hb,hl with
    | [],_,_ => rfl
    | [m],_,_ => rfl
    | m :: n :: r',hb,hl =>
     have hm := hb m (by simp)
     have hn := hb n (by simp)
     have wm : IntKind.i64.wrap m = m := cG (by omega) (by omega)
     have wn : IntKind.i64.wrap n = n := cG (by omega) (by omega)
     rw [show decide ((((m :: n :: r').length : Nat) : Int) < 2) = false from decide_eq_false (by simp; omega)]
     simp only [Bool.false_eq_true,if_false,aJ1,aTd,Option.bind_some,wm,wn,aST,aOL]
     cases hr : aC3 m n with
     | false => rfl
     | true => rfl
   ·rw [if_neg h2,show (x == 11) = false by simpa using h2]
    simp only [Bool.false_eq_true,if_false,lL,wx]
structure VOp (o : bC) : Prop where
 data : Byt o.Data ∧ o.Data.length ≤ 255
 multi : o.Code = 11 → 1 ≤ o.M ∧ o.M ≤ o.N ∧ o.N ≤ 15
theorem aFP {x : Int} {r : List Int} (hb : Byt (x :: r)) (he : (gV x r).2.2 = 0) : VOp (gV x r).1 ∧ Byt (gV x r).2.1 ∧ (gV x r).2.1.length ≤ r.length ∧ ∀ t,gV x (r ++ t) = ((gV x r).1,(gV x r).2.1 ++ t,0) := by
 have hr : Byt r := fun y hy => hb y (by simp [hy])
 unfold gV at he ⊢
 by_cases h0 : x < 1 ∨ 17 < x
 ·rw [if_pos h0] at he; cases he
 ·simp only [if_neg h0] at he ⊢
  by_cases h1 : x = 1
  ·subst h1
   simp only [if_true] at he ⊢
   match r,hr,he with
   | [],_,he => cases he
   | n :: r',hr,he =>
    simp only at he ⊢
    by_cases h2 : (r'.length : Int) < n
    ·rw [if_pos h2] at he; cases he
    ·simp only [if_neg h2] at he ⊢
     have hn := hr n (by simp)
     have hr' : Byt r' := fun y hy => hr y (by simp [hy])
     refine ⟨⟨⟨aDI hr' _,by simp; omega⟩,fun h => by simp at h⟩,aDt hr' _,by simp; omega,fun t => ?_⟩
     simp only [List.cons_append]
     rw [if_neg (by simp; omega),List.take_append_of_le_length (by omega),List.drop_append_of_le_length (by omega)]
  ·simp only [if_neg h1] at he ⊢
   by_cases h2 : x = 11
   ·subst h2
    simp only [if_true] at he ⊢
    match r,hr,he with
    | [],_,he => cases he
    | [_],_,he => cases he
    | m :: n :: r',hr,he =>
     simp only [List.cons_append] at he ⊢
     by_cases h3 : aC3 m n = true
     ·simp only [if_pos h3] at he ⊢
      refine ⟨⟨⟨fun y hy => by simp at hy,by simp⟩,fun _ => ?_⟩,fun y hy => hr y (by simp [hy]),by simp; omega,fun t => trivial⟩
      simp only [aC3,Bool.and_eq_true,decide_eq_true_eq] at h3
      exact ⟨h3.1.2,h3.2,h3.1.1.2⟩
     ·rw [if_neg h3] at he; cases he
   ·simp only [if_neg h2] at he ⊢
    exact ⟨⟨⟨fun y hy => by simp at hy,by simp⟩,fun h => absurd h h2⟩,hr,Nat.le_refl _,fun t => trivial⟩
def fX : Nat → List Int → List bC → LR (List bC) (List bC × Int)
 | 0,_,acc => .brk acc
 | _ + 1,[],acc => .brk acc
 | k + 1,x :: r,acc => if (gV x r).2.2 = 0 then fX k (gV x r).2.1 (acc ++ [(gV x r).1]) else .ret ([],(gV x r).2.2)
theorem aGP {N : Nat} (hN : 70000 ≤ N) : ∀ (m : Nat) (b : List Int) (acc : List bC),b.length < m → Byt b → b.length ≤ 100000 → acc.length + b.length ≤ 200000 → kX N m b acc = some (fX m b acc)
 | 0,b,acc,hm,_,_,_ => by omega
 | m + 1,[],acc,_,_,_,_ => rfl
 | m + 1,x :: r,acc,hm,hb,hl,ha => by
  simp only [List.length_cons] at hm hl ha
  rw [kX,show decide ((0 : Int) < (((x :: r).length : Nat) : Int)) = true from decide_eq_true (by rw [List.length_cons]; omega),if_pos rfl,aO8 hN hb (by omega)]
  simp only [Option.bind_some,fX]
  by_cases he : (gV x r).2.2 = 0
  ·obtain ⟨h1,h2,h3,_⟩ := aFP hb he
   rw [if_pos he,he,show ((0 : Int) != 0) = false from rfl]
   have hlim := lP
   simp only [Bool.false_eq_true,if_false]
   rw [aAQ (by simp; omega)]
   simp only [Option.bind_some]
   exact aGP hN m _ _ (by omega) h2 (by omega) (by simp; omega)
  ·rw [if_neg he,show ((gV x r).2.2 != 0) = true by simpa using he]
   rfl
theorem aCz : ∀ (k k' : Nat) (b : List Int) (acc : List bC),Byt b → b.length < k → b.length < k' → fX k b acc = fX k' b acc
 | 0,_,b,_,_,hk,_ => by omega
 | k + 1,0,b,_,_,_,hk => by omega
 | k + 1,k' + 1,[],acc,_,_,_ => rfl
 | k + 1,k' + 1,x :: r,acc,hb,h1,h2 => by
  simp only [List.length_cons] at h1 h2
  simp only [fX]
  by_cases he : (gV x r).2.2 = 0
  ·obtain ⟨_,h4,h3,_⟩ := aFP hb he
   rw [if_pos he,if_pos he]
   exact aCz k k' _ _ h4 (by omega) (by omega)
  ·rw [if_neg he,if_neg he]
theorem aEt : ∀ (k : Nat) (b : List Int) (acc l : List bC),Byt b → b.length < k → (∀ o ∈ acc,VOp o) → fX k b acc = .brk l → (∀ o ∈ l,VOp o) ∧ l.length ≤ acc.length + b.length ∧ ∀ (t : List Int) (k' : Nat),Byt t → b.length + t.length < k' → fX k' (b ++ t) acc = fX (t.length + 1) t l
 | 0,b,_,_,_,hk,_,_ => by omega
 | k + 1,[],acc,l,_,_,hv,h => by
  injection h with h
  subst h
  refine ⟨hv,by simp,fun t k' ht hk => ?_⟩
  rw [List.nil_append]
  exact aCz _ _ _ _ ht (by simpa using hk) (by omega)
 | k + 1,x :: r,acc,l,hb,hk,hv,h => by
  simp only [List.length_cons] at hk
  simp only [fX] at h
  by_cases he : (gV x r).2.2 = 0
  ·obtain ⟨h1,h4,h3,h5⟩ := aFP hb he
   rw [if_pos he] at h
   obtain ⟨g1,g2,g3⟩ := aEt k _ _ l h4 (by omega) (fun o ho => (List.mem_append.1 ho).elim (hv o) (fun hh => by simp only [List.mem_singleton] at hh; exact hh ▸ h1)) h
   refine ⟨g1,by simp at g2 ⊢; omega,fun t k' ht hk' => ?_⟩
   obtain ⟨k',rfl⟩ : ∃ q,k' = q + 1 := ⟨k' - 1,by omega⟩
   simp only [List.length_cons] at hk'
   rw [List.cons_append,fX,h5 t]
   simp only [if_true]
   exact g3 t k' ht (by omega)
  ·rw [if_neg he] at h; cases h
def cC (b : List Int) : List bC × Int := if 520 < b.length then ([],4) else match fX (b.length + 1) b [] with | .ret v => v | .brk l => (l,0)
theorem aOD {N : Nat} (hN : 70000 ≤ N) {b : List Int} (hb : Byt b) : u9 N b = some (cC b) := by
 unfold u9 cC
 by_cases h : 520 < b.length
 ·rw [show decide ((520 : Int) < ((b.length : Nat) : Int)) = true from decide_eq_true (by omega),if_pos rfl,if_pos h]
 ·rw [show decide ((520 : Int) < ((b.length : Nat) : Int)) = false from decide_eq_false (by omega),if_neg h,aGP hN N b [] (by omega) hb (by omega) (by simp; omega),aCz N (b.length + 1) b [] hb (by omega) (by omega)]
  cases fX (b.length + 1) b [] <;> rfl
theorem aGB : ∀ (k : Nat) (b : List Int) (acc : List bC) (v : List bC × Int),fX k b acc = .ret v → v.1 = [] ∧ v.2 ≠ 0
 | 0,_,_,_,h => by cases h
 | k + 1,[],_,_,h => by cases h
 | k + 1,x :: r,acc,v,h => by
  simp only [fX] at h
  by_cases he : (gV x r).2.2 = 0
  ·rw [if_pos he] at h; exact aGB k _ _ v h
  ·rw [if_neg he] at h; injection h with h; subst h; exact ⟨rfl,he⟩
theorem aCo {b : List Int} (hb : Byt b) (h : (cC b).2 = 0) : (∀ o ∈ (cC b).1,VOp o) ∧ (cC b).1.length ≤ 520 ∧ b.length ≤ 520 ∧ fX (b.length + 1) b [] = .brk (cC b).1 := by
 unfold cC at h ⊢
 by_cases hl : 520 < b.length
 ·rw [if_pos hl] at h; cases h
 ·simp only [if_neg hl] at h ⊢
  cases hp : fX (b.length + 1) b [] with
  | ret v => rw [hp] at h; exact absurd h (aGB _ _ _ _ hp).2
  | brk l =>
   obtain ⟨g1,g2,_⟩ := aEt _ b [] l hb (by omega) (by simp) hp
   exact ⟨g1,by simp at g2; show l.length ≤ 520; omega,by omega,rfl⟩
theorem aLD {a b : List Int} (ha : Byt a) (hb : Byt b) (h1 : (cC a).2 = 0) (h2 : (cC b).2 = 0) (hl : a.length + b.length ≤ 520) : cC (a ++ b) = ((cC a).1 ++ (cC b).1,0) := by
 obtain ⟨_,_,_,p1⟩ := aCo ha h1
 obtain ⟨_,_,_,p2⟩ := aCo hb h2
 obtain ⟨_,_,g⟩ := aEt _ a [] _ ha (by omega) (by simp) p1
 have e1 := g b ((a ++ b).length + 1) hb (by rw [List.length_append]; omega)
 have acc : ∀ (k : Nat) (b : List Int) (acc l : List bC),fX k b [] = .brk l → fX k b acc = .brk (acc ++ l) := by
  intro k
  have gen : ∀ (k : Nat) (b : List Int) (acc acc' l : List bC),fX k b acc = .brk l → ∃ l',l = acc ++ l' ∧ fX k b acc' = .brk (acc' ++ l') := by
   intro k
   induction k with
   | zero => intro b acc acc' l h; injection h with h; exact ⟨[],by simp [h],by simp [fX]⟩
   | succ k ih =>
    intro b acc acc' l h
    match b with
    | [] => injection h with h; exact ⟨[],by simp [h],by simp [fX]⟩
    | x :: r =>
     simp only [fX] at h ⊢
     by_cases he : (gV x r).2.2 = 0
     ·rw [if_pos he] at h ⊢
      obtain ⟨l',e1,e2⟩ := ih _ _ (acc' ++ [(gV x r).1]) _ h
      exact ⟨(gV x r).1 :: l',by rw [e1]; simp,by rw [e2]; simp⟩
     ·rw [if_neg he] at h; cases h
  intro b acc l h
  obtain ⟨l',e1,e2⟩ := gen k b [] acc l h
  rw [List.nil_append] at e1
  rw [e1]; exact e2
 rw [acc _ _ (cC a).1 _ p2] at e1
 unfold cC at e1 ⊢
 rw [if_neg (show ¬ 520 < (a ++ b).length by simp; omega),e1]
def yO (v : Bool) : List Int := if v then [1] else []
theorem aFr (v : Bool) : Byt (yO v) ∧ (yO v).length ≤ 520 := by
 cases v
 ·exact ⟨fun x hx => by simp [yO] at hx,by decide⟩
 ·exact ⟨fun x hx => by simp [yO] at hx; omega,by decide⟩
theorem aIi (N : Nat) : ∀ (m k n : Nat) (acc : List Int),n < 256 ^ k → k < m → k ≤ 10 → acc.length + k ≤ 1000 → Byt acc → n < 4294967296 → ∃ r,fN N m (n : Int) acc = some r ∧ Byt r ∧ r.length ≤ acc.length + k
 | 0,k,n,acc,_,hm,_,_,_,_ => by omega
 | m + 1,k,n,acc,hn,hm,hk,ha,hb,h32 => by
  rw [fN]
  by_cases h : 0 < n
  ·match k,hn with
   | 0,hn => simp at hn; omega
   | k + 1,hn =>
    rw [show decide ((0 : Int) < (n : Int)) = true from decide_eq_true (by omega),if_pos rfl,j7 (by simp; omega)]
    simp only [Option.bind_some]
    rw [show shr .u32 (n : Int) 8 = some ((n / 256 : Nat) : Int) from aAl n 8 h32,Option.bind_some]
    rw [Nat.pow_succ] at hn
    obtain ⟨r,h1,h2,h3⟩ := aIi N m k (n / 256) (acc ++ [IntKind.u8.wrap (n : Int)]) ((Nat.div_lt_iff_lt_mul (by omega)).2 hn) (by omega) (by omega) (by simp; omega) (hb.append (fun x hx => by simp only [List.mem_singleton] at hx; exact hx ▸ aEr _)) (by omega)
    exact ⟨r,h1,h2,by simp at h3; omega⟩
  ·rw [show decide ((0 : Int) < (n : Int)) = false from decide_eq_false (by omega)]
   exact ⟨acc,rfl,hb,by omega⟩
def aE9 (N : Nat) (n : Int) : List Int := (jC N n).getD []
section
variable {N : Nat} (hN : 70000 ≤ N)
include hN
theorem aLc {n : Nat} (h : n < 4294967296) : jC N (n : Int) = some (aE9 N n) ∧ Byt (aE9 N n) ∧ (aE9 N n).length ≤ 520 := by
 obtain ⟨r,h1,h2,h3⟩ := aIi N N 4 n [] (by simpa using h) (by omega) (by omega) (by simp) (fun x hx => by simp at hx) h
 have : jC N (n : Int) = some r := by simp only [jC,h1,Option.bind_some,vO]
 rw [show aE9 N n = r by simp [aE9,this]]
 exact ⟨this,h2,by simp at h3; omega⟩
theorem aHp (v : Bool) : nS N v = some (yO v) := by
 obtain ⟨m,hm⟩ := tP (fun q => fN N q 1 []) hN
 obtain ⟨m',hm'⟩ := tP (fun q => fN N q 0 []) hN
 cases v with
 | false =>
  simp only [nS,Bool.false_eq_true,if_false,jC,hm']
  rfl
 | true =>
  simp only [nS,if_true,jC,hm]
  rw [fN,show decide ((0 : Int) < 1) = true from rfl,if_pos rfl,j7 (by simp)]
  simp only [Option.bind_some]
  rw [show shr .u32 1 8 = some 0 from by decide +kernel,Option.bind_some,fN]
  rfl
def aKa (N : Nat) (b : List Int) : Int × Int := (nD N b).getD (0,0)
theorem aQK (b : List Int) : nD N b = some (aKa N b) := by
 have hloop : b.length ≤ 4 → ∀ (m j : Nat) (v : Int),b.length - j < m → j ≤ b.length → ∃ r,jN N b m v (j : Int) = some r := by
  intro hl m
  induction m with
  | zero => intro j v hm _; omega
  | succ m ih =>
   intro j v hm hj
   rw [jN]
   by_cases h : j < b.length
   ·obtain ⟨y,hy⟩ : ∃ y,shl .u32 (IntKind.u32.wrap b[j]) (IntKind.i64.wrap (8 * (j : Int))) = some y := by
     rw [cG (by omega) (by omega)]; unfold shl; rw [if_neg (by omega)]; exact ⟨_,rfl⟩
    rw [dT h,if_pos rfl,b9 b h]
    simp only [Option.bind_some,hy,i1 (show j ≤ 100000 by omega)]
    exact ih (j + 1) _ (by omega) (by omega)
   ·rw [dF h]; exact ⟨v,rfl⟩
 have hJ : b.length ≤ 4 → ∀ t,∃ r,iD N b t = some r := by
  intro hl t
  cases t with
  | true => exact ⟨_,rfl⟩
  | false =>
   obtain ⟨r,hr⟩ := hloop hl N 0 0 (by omega) (by omega)
   rw [show ((0 : Nat) : Int) = 0 from rfl] at hr
   simp only [iD,Bool.false_eq_true,if_false,hr,Option.bind_some,sE]
   exact ⟨_,rfl⟩
 have : ∃ r,nD N b = some r := by
  unfold nD
  by_cases h : 4 < b.length
  ·rw [show decide ((4 : Int) < ((b.length : Nat) : Int)) = true from decide_eq_true (by omega)]
   exact ⟨_,rfl⟩
  ·rw [show decide ((4 : Int) < ((b.length : Nat) : Int)) = false from decide_eq_false (by omega)]
   simp only [Bool.false_eq_true,if_false]
   by_cases h2 : 0 < b.length
   ·rw [show decide ((0 : Int) < ((b.length : Nat) : Int)) = true from decide_eq_true (by omega),if_pos rfl,cG (by omega) (by omega),show ((b.length : Nat) : Int) - 1 = ((b.length - 1 : Nat) : Int) by omega,b9 b (by omega)]
    exact hJ (by omega) _
   ·rw [show decide ((0 : Int) < ((b.length : Nat) : Int)) = false from decide_eq_false (by omega)]
    show ∃ r,iD N b false = some r
    exact hJ (by omega) _
 obtain ⟨r,hr⟩ := this
 simp [aKa,hr]
def aLp (N : Nat) (iX : List Int) (now : Int) : Int := if (aKa N iX).2 != 0 then (aKa N iX).2 else if decide (now < IntKind.i64.wrap (aKa N iX).1) then 85 else 0
theorem aNc (iX : List Int) (now : Int) : pH N iX now = some (aLp N iX now) := by
 simp only [pH,aQK hN,Option.bind_some,aLp]
 split
 ·rfl
 ·split <;> rfl
def qG (b : List Int) : Bool := b.any (· != 0)
theorem aDM {b : List Int} (hl : b.length ≤ 60000) : mI N b = some (qG b) := by
 have := n8 (f := i5 N b) (xs := b) (p := fun x => !(x != 0)) (r := true) (fun m j hj => by
   rw [i5,dT hj,if_pos rfl,b9 b hj]
   simp only [Option.bind_some,i1 (show j ≤ 100000 by omega)]
   cases b[j] != 0 <;> rfl) (fun m j hj => by rw [i5,dF (by omega)]; rfl) N 0 (by omega) (by omega)
 rw [show ((0 : Nat) : Int) = 0 from rfl,List.drop_zero] at this
 unfold mI qG
 rw [this,List.any_eq_not_all_not]
 cases b.all fun x => !(x != 0) <;> rfl
end
structure WS (st : List (List Int)) : Prop where
 len : st.length ≤ 64
 it : ∀ x ∈ st,Byt x ∧ x.length ≤ 520
theorem WS.push {st : List (List Int)} (h : WS st) (hl : st.length < 64) {x : List Int} (hx : Byt x ∧ x.length ≤ 520) : WS (st ++ [x]) :=
 ⟨by simp; omega,fun y hy => (List.mem_append.1 hy).elim (h.it y) (fun e => by simp only [List.mem_singleton] at e; exact e ▸ hx)⟩
theorem WS.take {st : List (List Int)} (h : WS st) (k : Nat) : WS (st.take k) := ⟨by have := h.len; simp; omega,fun y hy => h.it y (List.mem_of_mem_take hy)⟩
theorem WS.set {st : List (List Int)} (h : WS st) (i : Nat) {x : List Int} (hx : Byt x ∧ x.length ≤ 520) : WS (st.set i x) := ⟨by rw [List.length_set]; exact h.len,fun y hy => (List.mem_or_eq_of_mem_set hy).elim (h.it y) (fun e => e ▸ hx)⟩
def mG (st : List (List Int)) (k : Nat) : List Int := st.getD (st.length - k) []
theorem vZ {st : List (List Int)} (h : WS st) {k : Nat} (h1 : 1 ≤ k) (hk : k ≤ st.length) : Byt (mG st k) ∧ (mG st k).length ≤ 520 ∧ b5 st (IntKind.i64.wrap (((st.length : Nat) : Int) - (k : Int))) = some (mG st k) := by
 have hl := h.len
 have hlt : st.length - k < st.length := by omega
 have e : mG st k = st[st.length - k] := by simp [mG,hlt]
 rw [cG (by omega) (by omega),show ((st.length : Nat) : Int) - (k : Int) = ((st.length - k : Nat) : Int) by omega,b9 st hlt,e]
 exact ⟨(h.it _ (List.getElem_mem hlt)).1,(h.it _ (List.getElem_mem hlt)).2,rfl⟩
theorem aHB {N : Nat} {m : List Int} {h a : Int} {st : List (List Int)} {br : List aN} {c : Int} (hs : st.length ≤ 64) {k : Nat} (hk : k ≤ st.length) : dQ N m h a st br c (k : Int) = some (m,h,a,st.take (st.length - k),br,c) := by
 unfold dQ
 rw [cG (by omega) (by omega),show ((st.length : Nat) : Int) - (k : Int) = ((st.length - k : Nat) : Int) by omega]
 have : sub st 0 ((st.length - k : Nat) : Int) = some (st.take (st.length - k)) := by
  unfold sub; rw [if_pos ⟨by omega,by omega,by omega⟩]; simp
 rw [this]; rfl
theorem aLw {l m : List (List Int)} (h : l.length + m.length ≤ 1000000) : app 24 l m = some (l ++ m) := by
 have := lP
 exact aAQ (by omega)
theorem aDj {N : Nat} {m : List Int} {h a : Int} {st : List (List Int)} {br : List aN} {c : Int} (hs : st.length ≤ 64) {k : Nat} (hk : k ≤ st.length) (x : List Int) : cU N m h a st br c (k : Int) x = some (m,h,a,st.take (st.length - k) ++ [x],br,c) := by
 unfold cU
 rw [aHB hs hk,Option.bind_some,aLw (by simp; omega)]; rfl
def aAM (st : List (List Int)) (x : List Int) : Int × List (List Int) := if 64 ≤ st.length then (4,st) else (0,st ++ [x])
theorem aHn {N : Nat} {m : List Int} {h a : Int} {st : List (List Int)} {br : List aN} {c : Int} (x : List Int) : gH N m h a st br c x = some ((aAM st x).1,m,h,a,(aAM st x).2,br,c) := by
 unfold gH aAM
 by_cases hl : 64 ≤ st.length
 ·rw [show decide ((64 : Int) ≤ ((st.length : Nat) : Int)) = true from decide_eq_true (by omega),if_pos rfl,if_pos hl]
 ·rw [show decide ((64 : Int) ≤ ((st.length : Nat) : Int)) = false from decide_eq_false (by omega),if_neg hl,aLw (by simp; omega)]; rfl
def rH (N : Nat) (m key sig : List Int) : Int := (cQ N m 0 0 [] [] 0 key sig).getD 0
theorem aRu {N : Nat} (hN : 70000 ≤ N) {m : List Int} (hm : m.length = 32) (hb : Byt m) (h a : Int) (st : List (List Int)) (br : List aN) (c : Int) (key sig : List Int) : cQ N m h a st br c key sig = some (rH N m key sig) := by
 obtain ⟨e,he⟩ := aMC hN hm hb 0 0 [] [] 0 key sig
 have h1 : cQ N m h a st br c key sig = cQ N m 0 0 [] [] 0 key sig := rfl
 rw [h1,show rH N m key sig = e by simp [rH,he],he]
def xB (N : Nat) (m : List Int) : List (List Int) → List (List Int) → Int → Int × Int
 | k :: ks,s :: ss,c => if rH N m k s != 0 then (rH N m k s,0) else xB N m ks ss (if decide (0 < (s.length : Int)) then c + 1 else c)
 | _,_,c => (0,c)
def n6 (N : Nat) (m : List Int) (st : List (List Int)) (dV : Int) (n : Nat) : Int × List (List Int) :=
 if (xB N m (st.drop (st.length - n)) ((st.take (st.length - n)).drop (st.length - 2 * n)) 0).1 = 0 then (0,st.take (st.length - 2 * n) ++ [yO (decide (dV ≤ (xB N m (st.drop (st.length - n)) ((st.take (st.length - n)).drop (st.length - 2 * n)) 0).2))])
 else ((xB N m (st.drop (st.length - n)) ((st.take (st.length - n)).drop (st.length - 2 * n)) 0).1,st)
section
variable {N : Nat} (hN : 70000 ≤ N) {m : List Int} (hm : m.length = 32) (hb : Byt m)
include hN hm hb
theorem aFO (h a : Int) (st : List (List Int)) (br : List aN) (c dV : Int) (n : Nat) (hn : n ≤ 100) (ks ss : List (List Int)) (hk : ks.length = n) (hs : ss.length = n) : ∀ (f j : Nat) (cnt : Int),n - j < f → j ≤ n → 0 ≤ cnt → cnt ≤ j →
  cV N m h a st br c dV (n : Int) ks ss f cnt (j : Int) = some (if (xB N m (ks.drop j) (ss.drop j) cnt).1 = 0 then .brk (xB N m (ks.drop j) (ss.drop j) cnt).2 else .ret ((xB N m (ks.drop j) (ss.drop j) cnt).1,m,h,a,st,br,c))
 | 0,j,cnt,hf,_,_,_ => by omega
 | f + 1,j,cnt,hf,hj,h0,h1 => by
  rw [cV]
  by_cases hjn : j < n
  ·rw [dT hjn,if_pos rfl,b9 ks (by omega),b9 ss (by omega)]
   simp only [Option.bind_some,aRu hN hm hb]
   rw [List.drop_eq_getElem_cons (show j < ks.length by omega),List.drop_eq_getElem_cons (show j < ss.length by omega),xB]
   cases hv : rH N m ks[j] ss[j] != 0 with
   | true =>
    have hv' : rH N m ks[j] ss[j] ≠ 0 := by simpa using hv
    simp only [if_true,if_neg hv']
   | false =>
    simp only [Bool.false_eq_true,if_false,g8,i1 (show j ≤ 100000 by omega)]
    cases hl : decide (0 < ((ss[j].length : Nat) : Int)) with
    | true =>
     simp only [if_true]
     rw [cG (a := cnt + 1) (by omega) (by omega)]
     exact aFO h a st br c dV n hn ks ss hk hs f (j + 1) _ (by omega) (by omega) (by omega) (by omega)
    | false =>
     simp only [Bool.false_eq_true,if_false]
     exact aFO h a st br c dV n hn ks ss hk hs f (j + 1) _ (by omega) (by omega) (by omega) (by omega)
  ·rw [dF hjn,List.drop_eq_nil_of_le (by omega)]
   rfl
theorem aHX {h a : Int} {st : List (List Int)} (hs : WS st) {br : List aN} {c dV : Int} {n : Nat} (h1 : 1 ≤ n) (hn : 2 * n ≤ st.length) : gW N m h a st br c dV (n : Int) = some ((n6 N m st dV n).1,m,h,a,(n6 N m st dV n).2,br,c) := by
 have hl := hs.len
 have e1 : tM st (IntKind.i64.wrap (((st.length : Nat) : Int) - (n : Int))) ((st.length : Nat) : Int) = some (st.drop (st.length - n)) := by
  rw [cG (by omega) (by omega),show ((st.length : Nat) : Int) - (n : Int) = ((st.length - n : Nat) : Int) by omega]
  unfold tM
  rw [if_pos ⟨by omega,by omega,by omega⟩,Int.toNat_natCast,Int.toNat_natCast,List.take_of_length_le (Nat.le_refl _)]
 have e2 : tM st (IntKind.i64.wrap (((st.length : Nat) : Int) - (IntKind.i64.wrap (2 * (n : Int))))) (IntKind.i64.wrap (((st.length : Nat) : Int) - (n : Int))) = some ((st.take (st.length - n)).drop (st.length - 2 * n)) := by
  rw [cG (a := 2 * (n : Int)) (by omega) (by omega),cG (a := ((st.length : Nat) : Int) - (n : Int)) (by omega) (by omega),cG (by omega) (by omega),show ((st.length : Nat) : Int) - (n : Int) = ((st.length - n : Nat) : Int) by omega,show ((st.length : Nat) : Int) - 2 * (n : Int) = ((st.length - 2 * n : Nat) : Int) by omega]
  unfold tM
  rw [if_pos ⟨by omega,by omega,by omega⟩,Int.toNat_natCast,Int.toNat_natCast]
 have lp := aFO hN hm hb h a st br c dV n (by omega) (st.drop (st.length - n)) ((st.take (st.length - n)).drop (st.length - 2 * n)) (by simp; omega) (by simp; omega) N 0 0 (by omega) (by omega) (by omega) (by omega)
 rw [List.drop_zero,List.drop_zero,show ((0 : Nat) : Int) = 0 from rfl] at lp
 simp only [gW,e1,e2,lp,Option.bind_some]
 unfold n6
 by_cases hz : (xB N m (st.drop (st.length - n)) ((st.take (st.length - n)).drop (st.length - 2 * n)) 0).1 = 0
 ·rw [if_pos hz,if_pos hz]
  simp only [kS,aHp hN,Option.bind_some]
  rw [cG (a := 2 * (n : Int)) (by omega) (by omega),show 2 * (n : Int) = ((2 * n : Nat) : Int) by omega,aDj hl hn]
  rfl
 ·rw [if_neg hz,if_neg hz]
end
def eqE (a b : List Int) : Bool := (aBg a).toList == (aBg b).toList
def aAU (N : Nat) (m : List Int) (h a : Int) (o : bC) (st : List (List Int)) : Int × List (List Int) :=
 if o.Code = 1 then aAM st o.Data
 else if o.Code = 2 then aAM st (mG st 1)
 else if o.Code = 3 then (0,st.take (st.length - 1))
 else if o.Code = 4 then (0,(st.set (st.length - 1) (mG st 2)).set (st.length - 2) (mG st 1))
 else if o.Code = 5 then (0,st.take (st.length - 2) ++ [yO (eqE (mG st 1) (mG st 2))])
 else if o.Code = 6 then (0,st.take (st.length - 1) ++ [yO (!qG (mG st 1))])
 else if o.Code = 7 then (if qG (mG st 1) then (0,st.take (st.length - 1)) else (84,st))
 else if o.Code = 8 then (0,st.take (st.length - 1) ++ [sha256 N (mG st 1)])
 else if o.Code = 9 then aAM st (aE9 N ((mG st 1).length : Nat))
 else if o.Code = 10 then n6 N m st 1 1
 else if o.Code = 11 then n6 N m st o.M o.N.toNat
 else if o.Code = 12 then (aLp N (mG st 1) h,st)
 else if o.Code = 13 then (aLp N (mG st 1) a,st)
 else if o.Code = 17 then (84,st)
 else (0,st)
def sW (o : bC) : Int :=
 if o.Code = 1 ∨ o.Code = 15 ∨ o.Code = 16 ∨ o.Code = 17 then 0 else if o.Code = 4 ∨ o.Code = 5 ∨ o.Code = 10 then 2 else if o.Code = 11 then 2 * o.N else 1
def pQ (o : bC) : Int := if o.Code = 8 then 6 else if o.Code = 10 then 21 else if o.Code = 11 then 1 + 20 * o.N else 1
theorem lD {x y : Int} (h : x ≠ y) : (x == y) = false := by simpa using h
theorem aN1 (N : Nat) {o : bC} (ho : VOp o) : vE N o.Code o.Data o.M o.N = some (pQ o) := by
 unfold vE pQ
 by_cases h8 : o.Code = 8
 ·rw [h8]; rfl
 ·rw [lD h8,if_neg h8]
  by_cases h10 : o.Code = 10
  ·rw [h10]; rfl
  ·rw [lD h10,if_neg h10]
   by_cases h11 : o.Code = 11
   ·have := ho.multi h11
    rw [if_pos h11,h11,cG (a := 20 * o.N) (by omega) (by omega),cG (by omega) (by omega)]; rfl
   ·rw [lD h11,if_neg h11]; rfl
theorem aM4 {o : bC} (ho : VOp o) : 1 ≤ pQ o ∧ pQ o ≤ 301 := by
 unfold pQ
 by_cases h11 : o.Code = 11
 ·have := ho.multi h11
  rw [if_neg (by omega),if_neg (by omega),if_pos h11]; omega
 ·rw [if_neg h11]
  split
  ·omega
  ·split <;> omega
theorem aNg (N : Nat) {o : bC} (ho : VOp o) : u5 N o.Code o.Data o.M o.N = some (sW o) := by
 unfold u5 sW kW mY
 by_cases h11 : o.Code = 11
 ·have := ho.multi h11
  simp only [h11]
  rw [cG (a := 2 * o.N) (by omega) (by omega)]
  simp
 ·by_cases h1 : o.Code = 1
  ·simp [h1]
  ·by_cases h15 : o.Code = 15
   ·simp [h15]
   ·by_cases h16 : o.Code = 16
    ·simp [h16]
    ·by_cases h17 : o.Code = 17
     ·simp [h17]
     ·by_cases h4 : o.Code = 4
      ·simp [h4]
      ·by_cases h5 : o.Code = 5
       ·simp [h5]
       ·by_cases h10 : o.Code = 10
        ·simp [h10]
        ·simp [h1,h15,h16,h17,h4,h5,h10,h11]
section
variable {N : Nat} (hN : 70000 ≤ N) {m : List Int} (hm : m.length = 32) (hb : Byt m)
include hN hm hb
theorem aFD {st : List (List Int)} (hs : WS st) {x : List Int} (hx : Byt x ∧ x.length ≤ 520) : WS (aAM st x).2 := by
 unfold aAM
 by_cases h : 64 ≤ st.length
 ·rw [if_pos h]; exact hs
 ·rw [if_neg h]; exact hs.push (by omega) hx
theorem aGU {st : List (List Int)} (hs : WS st) (dV : Int) {n : Nat} (h1 : 1 ≤ n) (hn : 2 * n ≤ st.length) : WS (n6 N m st dV n).2 := by
 unfold n6
 split
 ·have := hs.len
  exact (hs.take _).push (by simp; omega) (aFr _)
 ·exact hs
theorem aNF {h a : Int} {o : bC} (ho : VOp o) {st : List (List Int)} (hs : WS st) (hn : sW o ≤ (st.length : Int)) : WS (aAU N m h a o st).2 := by
 have hl := hs.len
 have rep : ∀ (k : Nat) (x : List Int),1 ≤ k → k ≤ st.length → (Byt x ∧ x.length ≤ 520) → WS (st.take (st.length - k) ++ [x]) := fun k x h1 hk hx => (hs.take _).push (by simp; omega) hx
 unfold aAU
 unfold sW at hn
 by_cases h1 : o.Code = 1
 ·rw [if_pos h1]
  exact aFD hN hm hb hs ⟨ho.data.1,by have := ho.data.2; omega⟩
 rw [if_neg h1]
 by_cases h2 : o.Code = 2
 ·simp [h2] at hn
  have := vZ hs (k := 1) (by omega) (by omega)
  rw [if_pos h2]
  exact aFD hN hm hb hs ⟨this.1,this.2.1⟩
 rw [if_neg h2]
 by_cases h3 : o.Code = 3
 ·rw [if_pos h3]; exact hs.take _
 rw [if_neg h3]
 by_cases h4 : o.Code = 4
 ·simp [h4] at hn
  have q1 := vZ hs (k := 1) (by omega) (by omega)
  have q2 := vZ hs (k := 2) (by omega) (by omega)
  rw [if_pos h4]
  exact (hs.set _ ⟨q2.1,q2.2.1⟩).set _ ⟨q1.1,q1.2.1⟩
 rw [if_neg h4]
 by_cases h5 : o.Code = 5
 ·simp [h5] at hn
  rw [if_pos h5]
  exact rep 2 _ (by omega) (by omega) (aFr _)
 rw [if_neg h5]
 by_cases h6 : o.Code = 6
 ·simp [h6] at hn
  rw [if_pos h6]
  exact rep 1 _ (by omega) (by omega) (aFr _)
 rw [if_neg h6]
 by_cases h7 : o.Code = 7
 ·rw [if_pos h7]
  cases qG (mG st 1)
  ·exact hs
  ·exact hs.take _
 rw [if_neg h7]
 by_cases h8 : o.Code = 8
 ·simp [h8] at hn
  rw [if_pos h8]
  exact rep 1 _ (by omega) (by omega) ⟨nP _ _,by rw [mC]; omega⟩
 rw [if_neg h8]
 by_cases h9 : o.Code = 9
 ·simp [h9] at hn
  have := vZ hs (k := 1) (by omega) (by omega)
  rw [if_pos h9]
  exact aFD hN hm hb hs (aLc hN (n := (mG st 1).length) (by omega)).2
 rw [if_neg h9]
 by_cases h10 : o.Code = 10
 ·simp [h10] at hn
  rw [if_pos h10]
  exact aGU hN hm hb hs _ (by omega) (by omega)
 rw [if_neg h10]
 by_cases h11 : o.Code = 11
 ·have := ho.multi h11
  simp [h11] at hn
  rw [if_pos h11]
  exact aGU hN hm hb hs _ (by omega) (by omega)
 rw [if_neg h11]
 by_cases h12 : o.Code = 12
 ·rw [if_pos h12]; exact hs
 rw [if_neg h12]
 by_cases h13 : o.Code = 13
 ·rw [if_pos h13]; exact hs
 rw [if_neg h13]
 by_cases h17 : o.Code = 17
 ·rw [if_pos h17]; exact hs
 rw [if_neg h17]; exact hs
theorem aOg {h a : Int} {o : bC} (ho : VOp o) {st : List (List Int)} (hs : WS st) (hn : sW o ≤ (st.length : Int)) (br : List aN) (c : Int) :
  kQ N m h a st br c o.Code o.Data o.M o.N = some ((aAU N m h a o st).1,m,h,a,(aAU N m h a o st).2,br,c) := by
 have hl := hs.len
 have top : 1 ≤ st.length → cF N m h a st br c = some (mG st 1) := fun h1 => by
  unfold cF
  rw [show ((st.length : Nat) : Int) - 1 = ((st.length : Nat) : Int) - ((1 : Nat) : Int) from rfl,(vZ hs (k := 1) (by omega) h1).2.2]; rfl
 have len1 : 1 ≤ st.length → (mG st 1).length ≤ 520 ∧ Byt (mG st 1) := fun h1 => ⟨(vZ hs (k := 1) (by omega) h1).2.1,(vZ hs (k := 1) (by omega) h1).1⟩
 have rep1 : ∀ x,1 ≤ st.length → cU N m h a st br c 1 x = some (m,h,a,st.take (st.length - 1) ++ [x],br,c) := fun x h1 => aDj (k := 1) hl h1 x
 have rep2 : ∀ x,2 ≤ st.length → cU N m h a st br c 2 x = some (m,h,a,st.take (st.length - 2) ++ [x],br,c) := fun x h1 => aDj (k := 2) hl h1 x
 have drp : 1 ≤ st.length → dQ N m h a st br c 1 = some (m,h,a,st.take (st.length - 1),br,c) := fun h1 => aHB (k := 1) hl h1
 have i2 : 2 ≤ st.length → b5 st (IntKind.i64.wrap (((st.length : Nat) : Int) - 2)) = some (mG st 2) := fun h2 => (vZ hs (k := 2) (by omega) h2).2.2
 have i1' : 1 ≤ st.length → b5 st (IntKind.i64.wrap (((st.length : Nat) : Int) - 1)) = some (mG st 1) := fun h2 => (vZ hs (k := 1) (by omega) h2).2.2
 unfold aAU kQ
 unfold sW at hn
 by_cases h1 : o.Code = 1
 ·rw [if_pos h1,h1,aHn]; rfl
 rw [if_neg h1,lD h1]
 by_cases h2 : o.Code = 2
 ·simp [h2] at hn
  rw [if_pos h2,h2,top (by omega)]
  simp only [Option.bind_some,aHn]; rfl
 rw [if_neg h2,lD h2]
 by_cases h3 : o.Code = 3
 ·simp [h3] at hn
  rw [if_pos h3,h3,drp (by omega)]; rfl
 rw [if_neg h3,lD h3]
 by_cases h4 : o.Code = 4
 ·simp [h4] at hn
  rw [if_pos h4,h4,i2 (by omega),i1' (by omega)]
  have e1 : IntKind.i64.wrap (((st.length : Nat) : Int) - 1) = ((st.length - 1 : Nat) : Int) := by rw [cG (by omega) (by omega)]; omega
  have e2 : IntKind.i64.wrap (((st.length : Nat) : Int) - 2) = ((st.length - 2 : Nat) : Int) := by rw [cG (by omega) (by omega)]; omega
  simp only [e1,e2,Int.toNat_natCast,Option.bind_some]
  rw [b9 _ (show st.length - 2 < (st.set (st.length - 1) (mG st 2)).length by rw [List.length_set]; omega)]
  rfl
 rw [if_neg h4,lD h4]
 by_cases h5 : o.Code = 5
 ·simp [h5] at hn
  rw [if_pos h5,h5,top (by omega),i2 (by omega)]
  simp only [Option.bind_some,aAE,aHp hN,rep2 _ (show 2 ≤ st.length by omega)]
  rfl
 rw [if_neg h5,lD h5]
 by_cases h6 : o.Code = 6
 ·simp [h6] at hn
  rw [if_pos h6,h6,top (by omega)]
  simp only [Option.bind_some,aDM hN (show (mG st 1).length ≤ 60000 by have := (len1 (by omega)).1; omega),aHp hN,rep1 _ (show 1 ≤ st.length by omega)]
  rfl
 rw [if_neg h6,lD h6]
 by_cases h7 : o.Code = 7
 ·simp [h7] at hn
  rw [if_pos h7,h7,top (by omega)]
  simp only [Option.bind_some,aDM hN (show (mG st 1).length ≤ 60000 by have := (len1 (by omega)).1; omega),drp (show 1 ≤ st.length by omega)]
  cases qG (mG st 1) <;> rfl
 rw [if_neg h7,lD h7]
 by_cases h8 : o.Code = 8
 ·simp [h8] at hn
  rw [if_pos h8,h8,top (by omega)]
  simp only [Option.bind_some,aGp N hN _ (len1 (by omega)).2 (show (mG st 1).length ≤ 1000000 by have := (len1 (by omega)).1; omega),cR (mC N (mG st 1)),rep1 _ (show 1 ≤ st.length by omega)]
  rfl
 rw [if_neg h8,lD h8]
 by_cases h9 : o.Code = 9
 ·simp [h9] at hn
  have := (len1 (by omega)).1
  rw [if_pos h9,h9,top (by omega)]
  simp only [Option.bind_some,aEU _ (show (mG st 1).length < 4294967296 by omega),(aLc hN (show (mG st 1).length < 4294967296 by omega)).1,aHn]
  rfl
 rw [if_neg h9,lD h9]
 by_cases h10 : o.Code = 10
 ·simp [h10] at hn
  have := aHX hN hm hb (h := h) (a := a) hs (br := br) (c := c) (dV := 1) (n := 1) (by omega) (by omega)
  rw [show ((1 : Nat) : Int) = 1 from rfl] at this
  rw [if_pos h10,h10,this]; rfl
 rw [if_neg h10,lD h10]
 by_cases h11 : o.Code = 11
 ·have hM := ho.multi h11
  simp [h11] at hn
  have := aHX hN hm hb (h := h) (a := a) hs (br := br) (c := c) (dV := o.M) (n := o.N.toNat) (by omega) (by omega)
  rw [show ((o.N.toNat : Nat) : Int) = o.N by omega] at this
  rw [if_pos h11,h11,this]; rfl
 rw [if_neg h11,lD h11]
 by_cases h12 : o.Code = 12
 ·simp [h12] at hn
  rw [if_pos h12,h12,top (by omega)]
  simp only [Option.bind_some,aNc hN]; rfl
 rw [if_neg h12,lD h12]
 by_cases h13 : o.Code = 13
 ·simp [h13] at hn
  rw [if_pos h13,h13,top (by omega)]
  simp only [Option.bind_some,aNc hN]; rfl
 rw [if_neg h13,lD h13]
 by_cases h17 : o.Code = 17
 ·rw [if_pos h17,h17]; rfl
 rw [if_neg h17,lD h17]; rfl
end
structure St where
 st : List (List Int)
 br : List aN
 c : Int
def aCG (br : List aN) : aN := br.getD (br.length - 1) ⟨true,true⟩
def aB6 (o : bC) (br : List aN) : Bool := if o.Code = 15 ∨ o.Code = 16 then (aCG br).outer else (aCG br).outer && (aCG br).taken
def aEX (N : Nat) (m : List Int) (h a : Int) (o : bC) (k : Bool) (s : St) : Int × St :=
 if o.Code = 14 then (0,⟨if k then s.st.take (s.st.length - 1) else s.st,s.br ++ [⟨k,k && qG (mG s.st 1)⟩],s.c⟩)
 else if o.Code = 15 then (0,⟨s.st,s.br.set (s.br.length - 1) ⟨(aCG s.br).outer,!(aCG s.br).taken⟩,s.c⟩)
 else if o.Code = 16 then (0,⟨s.st,s.br.take (s.br.length - 1),s.c⟩)
 else if k then ((aAU N m h a o s.st).1,⟨(aAU N m h a o s.st).2,s.br,s.c⟩) else (0,s)
def pN (N : Nat) (m : List Int) (h a : Int) (o : bC) (s : St) : Int × St :=
 if aB6 o s.br then
  (if 500 < s.c + pQ o then (83,s) else if (s.st.length : Int) < sW o then (81,s) else aEX N m h a o true ⟨s.st,s.br,s.c + pQ o⟩)
 else aEX N m h a o false s
def iW (N : Nat) (m : List Int) (h a : Int) : List bC → St → Int × St
 | [],s => (0,s)
 | o :: r,s => if (pN N m h a o s).1 = 0 then iW N m h a r (pN N m h a o s).2 else pN N m h a o s
def mV : List bC → List Bool → Option (List Bool)
 | [],l => some l
 | o :: r,l =>
  if o.Code = 14 then mV r (l ++ [false])
  else if o.Code = 15 then (if l = [] then none else if l.getD (l.length - 1) true = true then none else mV r (l.set (l.length - 1) true))
  else if o.Code = 16 then (if l = [] then none else mV r (l.take (l.length - 1)))
  else mV r l
theorem aEY {n : Nat} (h1 : 1 ≤ n) (h2 : n ≤ 100000) : IntKind.i64.wrap ((n : Int) - 1) = ((n - 1 : Nat) : Int) := by rw [cG (by omega) (by omega)]; omega
theorem aAb {α : Type} {l : List α} : l = [] ↔ l.length = 0 := by cases l <;> simp
def aRO : Option (List Bool) → LR (List Bool) Bool
 | none => .ret false
 | some l => .brk l
theorem aHP (N : Nat) (l : List bC) (hl : l.length ≤ 1000) : ∀ (f j : Nat) (op : List Bool),l.length - j < f → j ≤ l.length → op.length ≤ j → dC N l f (j : Int) op = some (aRO (mV (l.drop j) op))
 | 0,j,op,hf,_,_ => by omega
 | f + 1,j,op,hf,hj,ho => by
  rw [dC]
  by_cases h : j < l.length
  ·rw [dT h,if_pos rfl,b9 l h,List.drop_eq_getElem_cons h]
   simp only [Option.bind_some,mV,jP,oW,i1 (show j ≤ 100000 by omega)]
   have ih := fun op' (ho' : op'.length ≤ j + 1) => aHP N l hl f (j + 1) op' (by omega) (by omega) ho'
   by_cases h14 : l[j].Code = 14
   ·have := lP
    rw [if_pos h14,h14,aAQ (by simp; omega)]
    exact ih _ (by simp; omega)
   rw [if_neg h14,lD h14]
   by_cases h15 : l[j].Code = 15
   ·rw [if_pos h15,h15]
    by_cases h0 : op = []
    ·rw [if_pos h0,h0]; rfl
    ·have h0' : 1 ≤ op.length := by have := mt aAb.2 h0; omega
     rw [if_neg h0,aEY h0' (by omega),show decide ((((op.length - 1 : Nat)) : Int) < 0) = false from decide_eq_false (by omega),b9 op (show op.length - 1 < op.length by omega),show op.getD (op.length - 1) true = op[op.length - 1] by simp [show op.length - 1 < op.length by omega]]
     cases hh : op[op.length - 1]
     ·simp only [Bool.false_eq_true,if_false,Option.bind_some,Int.toNat_natCast,show ((15 : Int) == 14) = false from rfl,show ((15 : Int) == 15) = true from rfl,if_true]
      exact ih _ (by simp; omega)
     ·rfl
   rw [if_neg h15,lD h15]
   by_cases h16 : l[j].Code = 16
   ·rw [if_pos h16,h16]
    by_cases h0 : op = []
    ·rw [if_pos h0,h0]; rfl
    ·have h0' : 1 ≤ op.length := by have := mt aAb.2 h0; omega
     have e : sub op 0 ((op.length - 1 : Nat) : Int) = some (op.take (op.length - 1)) := by
      unfold sub; rw [if_pos ⟨by omega,by omega,by omega⟩]; simp
     rw [if_neg h0,aEY h0' (by omega),show decide ((((op.length - 1 : Nat)) : Int) < 0) = false from decide_eq_false (by omega),e]
     exact ih _ (by simp; omega)
   rw [if_neg h16,lD h16]
   exact ih _ (by omega)
  ·rw [dF h,List.drop_eq_nil_of_le (by omega)]; rfl
def aAB (l : List bC) : Bool := match mV l [] with | none => false | some q => (q.length : Int) == 0
theorem aMp {N : Nat} (hN : 70000 ≤ N) {l : List bC} (hl : l.length ≤ 1000) : sY N l = some (aAB l) := by
 have := aHP N l hl N 0 [] (by omega) (by omega) (by simp)
 rw [List.drop_zero,show ((0 : Nat) : Int) = 0 from rfl] at this
 unfold sY aAB
 rw [this]
 cases mV l [] <;> rfl
section
variable {N : Nat} (hN : 70000 ≤ N) {m : List Int} (hm : m.length = 32) (hb : Byt m)
include hN hm hb
theorem aO6 {h a : Int} {o : bC} (ho : VOp o) {s : St} (hs : WS s.st) (hbr : s.br.length ≤ 1000) (hc : 0 ≤ s.c ∧ s.c ≤ 500) (h15 : o.Code = 15 ∨ o.Code = 16 → s.br ≠ []) :
  ∃ s',gJ N m h a s.st s.br s.c o.Code o.Data o.M o.N = some ((pN N m h a o s).1,m,h,a,s'.st,s'.br,s'.c) ∧ ((pN N m h a o s).1 = 0 → s' = (pN N m h a o s).2 ∧ WS s'.st ∧ s.c ≤ s'.c ∧ s'.c ≤ 500 ∧ ((o.Code = 14 → s'.br.length = s.br.length + 1) ∧ (o.Code = 16 → s'.br.length = s.br.length - 1) ∧ (o.Code ≠ 14 → o.Code ≠ 16 → s'.br.length = s.br.length))) := by
 have hp := aM4 ho
 have hbody : ∀ (k : Bool) (c : Int),s.c ≤ c → c ≤ 500 → (k = true → sW o ≤ (s.st.length : Int)) → ∃ s',fZ N m h a s.st s.br o.Code o.Data o.M o.N k c = some ((aEX N m h a o k ⟨s.st,s.br,c⟩).1,m,h,a,s'.st,s'.br,s'.c) ∧ s' = (aEX N m h a o k ⟨s.st,s.br,c⟩).2 ∧ WS s'.st ∧ s.c ≤ s'.c ∧ s'.c ≤ 500 ∧ ((o.Code = 14 → s'.br.length = s.br.length + 1) ∧ (o.Code = 16 → s'.br.length = s.br.length - 1) ∧ (o.Code ≠ 14 → o.Code ≠ 16 → s'.br.length = s.br.length)) := by
  intro k c hc1 hc2 hk
  refine ⟨_, ?_,rfl, ?_⟩
  all_goals unfold aEX
  ·unfold fZ
   by_cases h14 : o.Code = 14
   ·rw [if_pos h14,h14]
    have := lP
    cases k with
    | false =>
     simp only [Bool.false_eq_true,if_false,show ((14 : Int) == 14) = true from rfl,if_true]
     rw [aAQ (by simp; omega)]; rfl
    | true =>
     have hn := hk rfl
     unfold sW at hn
     simp [h14] at hn
     have q := vZ hs (k := 1) (by omega) (by omega)
     have top : cF N m h a s.st s.br c = some (mG s.st 1) := by
      unfold cF
      rw [show ((s.st.length : Nat) : Int) - 1 = ((s.st.length : Nat) : Int) - ((1 : Nat) : Int) from rfl,q.2.2]; rfl
     simp only [show ((14 : Int) == 14) = true from rfl,if_true,top,Option.bind_some,aDM hN (show (mG s.st 1).length ≤ 60000 by omega)]
     rw [aAQ (by simp; omega)]
     simp only [Option.bind_some,jD,if_true]
     rw [show dQ N m h a s.st (s.br ++ [⟨true,qG (mG s.st 1)⟩]) c 1 = _ from aHB (k := 1) hs.len (by omega)]
     rfl
   rw [if_neg h14,lD h14]
   by_cases h15' : o.Code = 15
   ·have h0 := h15 (.inl h15')
    have h0' : 1 ≤ s.br.length := by have := mt aAb.2 h0; omega
    rw [if_pos h15',h15',aEY h0' (by omega),b9 s.br (show s.br.length - 1 < s.br.length by omega)]
    simp only [show aCG s.br = s.br[s.br.length - 1] by simp [aCG,show s.br.length - 1 < s.br.length by omega],Int.toNat_natCast]
    rfl
   rw [if_neg h15',lD h15']
   by_cases h16 : o.Code = 16
   ·have h0 := h15 (.inr h16)
    have h0' : 1 ≤ s.br.length := by have := mt aAb.2 h0; omega
    have e : sub s.br 0 ((s.br.length - 1 : Nat) : Int) = some (s.br.take (s.br.length - 1)) := by
     unfold sub; rw [if_pos ⟨by omega,by omega,by omega⟩]; simp
    rw [if_pos h16,h16,aEY h0' (by omega),e]; rfl
   rw [if_neg h16,lD h16]
   cases k with
   | true => simp only [Bool.false_eq_true,if_false,if_true,aOg hN hm hb ho hs (hk rfl),Option.bind_some]
   | false => rfl
  ·by_cases h14 : o.Code = 14
   ·simp only [if_pos h14]
    refine ⟨?_,hc1,hc2,fun _ => by simp,fun h => by omega,fun h => absurd h14 h⟩
    cases k
    ·exact hs
    ·exact hs.take _
   simp only [if_neg h14]
   by_cases h15' : o.Code = 15
   ·simp only [if_pos h15']
    exact ⟨hs,hc1,hc2,fun h => by omega,fun h => by omega,fun _ _ => by simp⟩
   simp only [if_neg h15']
   by_cases h16 : o.Code = 16
   ·simp only [if_pos h16]
    exact ⟨hs,hc1,hc2,fun h => by omega,fun h => by simp,fun _ h => by omega⟩
   simp only [if_neg h16]
   cases k with
   | true => exact ⟨aNF hN hm hb ho hs (hk rfl),hc1,hc2,fun h => by omega,fun h => by omega,fun _ _ => rfl⟩
   | false => exact ⟨hs,hc1,hc2,fun h => by omega,fun h => by omega,fun _ _ => rfl⟩
 have hJ : gJ N m h a s.st s.br s.c o.Code o.Data o.M o.N = fY N m h a s.st s.br s.c o.Code o.Data o.M o.N (aB6 o s.br) := by
  unfold gJ mP aB6
  by_cases h0 : s.br = []
  ·have : ¬ (o.Code = 15 ∨ o.Code = 16) := fun h => h15 h h0
   rw [h0,if_neg this]
   simp only [f9,lD (fun h => this (.inl h)),lD (fun h => this (.inr h))]
   rfl
  ·have h0' : 1 ≤ s.br.length := by have := mt aAb.2 h0; omega
   rw [show (((s.br.length : Nat) : Int) == 0) = false from lD (by omega),aEY h0' (by omega),b9 s.br (show s.br.length - 1 < s.br.length by omega),show aCG s.br = s.br[s.br.length - 1] by simp [aCG,show s.br.length - 1 < s.br.length by omega]]
   simp only [f9,aEY h0' (show s.br.length ≤ 100000 by omega),b9 s.br (show s.br.length - 1 < s.br.length by omega),iB,Option.bind_some,Bool.false_eq_true,if_false]
   by_cases h15' : o.Code = 15
   ·rw [if_pos (show o.Code = 15 ∨ o.Code = 16 from .inl h15'),h15']
    cases s.br[s.br.length - 1].outer <;> rfl
   ·by_cases h16 : o.Code = 16
    ·rw [if_pos (show o.Code = 15 ∨ o.Code = 16 from .inr h16),h16]
     cases s.br[s.br.length - 1].outer <;> rfl
    ·rw [if_neg (show ¬ (o.Code = 15 ∨ o.Code = 16) by omega),lD h15',lD h16]
     cases s.br[s.br.length - 1].outer <;> rfl
 rw [hJ]
 unfold fY pN
 cases aB6 o s.br with
 | false =>
  obtain ⟨s',h1,h2⟩ := hbody false s.c (Int.le_refl _) hc.2 (fun h => by cases h)
  exact ⟨s',h1,fun _ => h2⟩
 | true =>
  simp only [if_true,aN1 N ho,aNg N ho,Option.bind_some]
  rw [cG (a := s.c + pQ o) (by omega) (by omega)]
  by_cases h5 : 500 < s.c + pQ o
  ·rw [decide_eq_true h5,if_pos h5]
   exact ⟨⟨s.st,s.br,s.c + pQ o⟩,rfl,fun h => by cases h⟩
  ·rw [decide_eq_false h5,if_neg h5]
   simp only [Bool.false_eq_true,if_false]
   by_cases h6 : (s.st.length : Int) < sW o
   ·rw [decide_eq_true h6,if_pos h6]
    exact ⟨⟨s.st,s.br,s.c + pQ o⟩,rfl,fun h => by cases h⟩
   ·rw [decide_eq_false h6,if_neg h6]
    obtain ⟨s',h1,h2⟩ := hbody true (s.c + pQ o) (by omega) (by omega) (fun _ => by omega)
    exact ⟨s',h1,fun _ => h2⟩
end
theorem aMS {o : bC} {r : List bC} {l q : List Bool} (h : mV (o :: r) l = some q) : (o.Code = 15 ∨ o.Code = 16 → l ≠ []) ∧ ∃ l',mV r l' = some q ∧ (o.Code = 14 → l'.length = l.length + 1) ∧ (o.Code = 16 → l'.length = l.length - 1) ∧ (o.Code ≠ 14 → o.Code ≠ 16 → l'.length = l.length) := by
 simp only [mV] at h
 by_cases h14 : o.Code = 14
 ·rw [if_pos h14] at h
  exact ⟨fun h => by omega,_,h,fun _ => by simp,fun h => by omega,fun h => absurd h14 h⟩
 rw [if_neg h14] at h
 by_cases h15 : o.Code = 15
 ·rw [if_pos h15] at h
  by_cases h0 : l = []
  ·rw [if_pos h0] at h; cases h
  ·rw [if_neg h0] at h
   by_cases h1 : l.getD (l.length - 1) true = true
   ·rw [if_pos h1] at h; cases h
   ·rw [if_neg h1] at h
    exact ⟨fun _ => h0,_,h,fun h => by omega,fun h => by omega,fun _ _ => by simp⟩
 rw [if_neg h15] at h
 by_cases h16 : o.Code = 16
 ·rw [if_pos h16] at h
  by_cases h0 : l = []
  ·rw [if_pos h0] at h; cases h
  ·rw [if_neg h0] at h
   exact ⟨fun _ => h0,_,h,fun h => by omega,fun h => by simp,fun _ h => by omega⟩
 rw [if_neg h16] at h
 exact ⟨fun h => by omega,_,h,fun h => by omega,fun h => by omega,fun _ _ => rfl⟩
structure OkS (s : St) : Prop where
 ws : WS s.st
 c : 0 ≤ s.c ∧ s.c ≤ 500
def aOd (m : List Int) (h a : Int) (x : Int × St) : LR ((List Int) × Int × Int × Int × (List (List Int)) × (List aN)) ((List (List Int)) × Int × Int) :=
 if x.1 = 0 then .brk (m,h,a,x.2.c,x.2.st,x.2.br) else .ret ([],0,x.1)
section
variable {N : Nat} (hN : 70000 ≤ N) {m : List Int} (hm : m.length = 32) (hb : Byt m)
include hN hm hb
theorem aI5 {h a : Int} {o : bC} {r : List bC} (ho : VOp o) {s : St} (hs : OkS s) {l q : List Bool} (hl : s.br.length = l.length) (hn : mV (o :: r) l = some q) (hbr : s.br.length ≤ 1000) :
  ∃ s',gJ N m h a s.st s.br s.c o.Code o.Data o.M o.N = some ((pN N m h a o s).1,m,h,a,s'.st,s'.br,s'.c) ∧ ((pN N m h a o s).1 = 0 → s' = (pN N m h a o s).2 ∧ OkS s' ∧ s.c ≤ s'.c ∧ s'.br.length ≤ s.br.length + 1 ∧ ∃ l',s'.br.length = l'.length ∧ mV r l' = some q) := by
 obtain ⟨n1,l',n2,n3,n4,n5⟩ := aMS hn
 obtain ⟨s',h1,h2⟩ := aO6 hN hm hb (h := h) (a := a) ho hs.ws hbr hs.c (fun h e => n1 h (aAb.2 (by rw [← hl,e]; rfl)))
 refine ⟨s',h1,fun he => ?_⟩
 obtain ⟨e,g1,g2,g3,g4,g5,g6⟩ := h2 he
 have hc := hs.c
 refine ⟨e,⟨g1,by omega,g3⟩,g2, ?_,l', ?_,n2⟩
 ·by_cases h14 : o.Code = 14
  ·rw [g4 h14]; omega
  ·by_cases h16 : o.Code = 16
   ·rw [g5 h16]; omega
   ·rw [g6 h14 h16]; omega
 ·by_cases h14 : o.Code = 14
  ·rw [g4 h14,n3 h14,hl]
  ·by_cases h16 : o.Code = 16
   ·rw [g5 h16,n4 h16,hl]
   ·rw [g6 h14 h16,n5 h14 h16,hl]
theorem aKQ {h a : Int} : ∀ (r : List bC) (s : St) (l q : List Bool),(∀ o ∈ r,VOp o) → OkS s → s.br.length = l.length → mV r l = some q → s.br.length + r.length ≤ 1000 → (iW N m h a r s).1 = 0 → OkS (iW N m h a r s).2 ∧ s.c ≤ (iW N m h a r s).2.c ∧ (iW N m h a r s).2.br.length = q.length
 | [],s,l,q,_,hs,hl,hn,_,_ => by
  injection hn with hn
  exact ⟨hs,Int.le_refl _,hn ▸ hl⟩
 | o :: r,s,l,q,hv,hs,hl,hn,hlen,he => by
  simp only [List.length_cons] at hlen
  obtain ⟨s',h1,h2⟩ := aI5 hN hm hb (h := h) (a := a) (hv o (by simp)) hs hl hn (by omega)
  simp only [iW] at he ⊢
  by_cases h0 : (pN N m h a o s).1 = 0
  ·simp only [if_pos h0] at he ⊢
   obtain ⟨e,g1,g2,g3,l',g4,g5⟩ := h2 h0
   rw [← e] at he ⊢
   obtain ⟨k1,k2,k3⟩ := aKQ r s' l' q (fun o ho => hv o (by simp [ho])) g1 g4 g5 (by omega) he
   exact ⟨k1,by omega,k3⟩
  ·rw [if_neg h0] at he
   exact absurd he h0
theorem aJd {h a : Int} (ops : List bC) (e : Int) (hv : ∀ o ∈ ops,VOp o) (ho : ops.length ≤ 600) : ∀ (f j : Nat) (s : St) (l q : List Bool),ops.length - j < f → j ≤ ops.length → OkS s → s.br.length = l.length → mV (ops.drop j) l = some q → s.br.length ≤ j →
  k7 N (ops,e) f (j : Int) m h a s.c s.st s.br = some (aOd m h a (iW N m h a (ops.drop j) s))
 | 0,j,s,l,q,hf,_,_,_,_,_ => by omega
 | f + 1,j,s,l,q,hf,hj,hs,hl,hn,hbr => by
  rw [k7]
  by_cases hlt : j < ops.length
  ·rw [List.drop_eq_getElem_cons hlt] at hn ⊢
   obtain ⟨s',h1,h2⟩ := aI5 hN hm hb (h := h) (a := a) (hv _ (List.getElem_mem hlt)) hs hl hn (by omega)
   rw [dT hlt,if_pos rfl,b9 ops hlt]
   simp only [Option.bind_some,h1,iW]
   by_cases h0 : (pN N m h a ops[j] s).1 = 0
   ·obtain ⟨e',g1,g2,g3,l',g4,g5⟩ := h2 h0
    rw [h0,if_pos rfl,← e',show ((0 : Int) != 0) = false from rfl,i1 (by omega)]
    exact aJd ops e hv ho f (j + 1) s' l' q (by omega) (by omega) g1 g4 g5 (by omega)
   ·rw [if_neg h0,show ((pN N m h a ops[j] s).1 != 0) = true by simpa using h0]
    simp only [if_true,aOd,if_neg h0]
  ·rw [dF hlt,List.drop_eq_nil_of_le (by omega)]; rfl
end
section
variable {N : Nat} (hN : 70000 ≤ N)
include hN
theorem aIg {st : List (List Int)} (hl : st.length ≤ 1000) (h : ∀ x ∈ st,x.length ≤ 520) : pF N st = some st := by
 have lp : ∀ (f j : Nat) (acc : List (List Int)),st.length - j < f → j ≤ st.length → acc.length ≤ j → jQ N st f (j : Int) acc = some (acc ++ st.drop j) := by
  intro f
  induction f with
  | zero => intro j acc hf; omega
  | succ f ih =>
   intro j acc hf hj ha
   rw [jQ]
   by_cases hlt : j < st.length
   ·have hx := h _ (List.getElem_mem hlt)
    rw [dT hlt,if_pos rfl,b9 st hlt]
    simp only [Option.bind_some]
    rw [aQ7 hN [st[j]] (by simp) (by simp; omega)]
    simp only [Option.bind_some,List.flatten_cons,List.flatten_nil,List.append_nil]
    rw [aLw (by simp; omega)]
    simp only [Option.bind_some,i1 (show j ≤ 100000 by omega)]
    rw [ih (j + 1) _ (by omega) (by omega) (by simp; omega),List.drop_eq_getElem_cons hlt,List.append_assoc]
    rfl
   ·rw [dF hlt,List.drop_eq_nil_of_le (by omega),List.append_nil]; rfl
 have := lp N 0 [] (by omega) (by omega) (by simp)
 rw [show ((0 : Nat) : Int) = 0 from rfl] at this
 simp only [pF,this,Option.bind_some,sB,List.nil_append,List.drop_zero]
def uN (st : List (List Int)) : Bool := !decide (64 < st.length) && st.all fun x => !decide (520 < (x.length : Int))
theorem aLZ (st : List (List Int)) : rM N st = some (uN st) := by
 unfold rM uN
 by_cases hl : 64 < st.length
 ·rw [show decide ((64 : Int) < ((st.length : Nat) : Int)) = true from decide_eq_true (by omega),decide_eq_true hl]; rfl
 ·have := n8 (f := gB N st) (xs := st) (p := fun x => !decide (520 < (x.length : Int))) (r := false) (fun m j hj => by
   rw [gB,dT hj,if_pos rfl,b9 st hj]
   simp only [Option.bind_some,i1 (show j ≤ 100000 by omega)]
   cases decide (520 < ((st[j].length : Nat) : Int)) <;> rfl) (fun m j hj => by rw [gB,dF (by omega)]; rfl) N 0 (by omega) (by omega)
  rw [show ((0 : Nat) : Int) = 0 from rfl,List.drop_zero] at this
  rw [show decide ((64 : Int) < ((st.length : Nat) : Int)) = false from decide_eq_false (by omega),decide_eq_false hl,this]
  cases st.all fun x => !decide (520 < (x.length : Int)) <;> rfl
end
theorem aHR {st : List (List Int)} (hb : ∀ x ∈ st,Byt x) : uN st = true ↔ WS st := by
 unfold uN
 constructor
 ·intro h
  simp only [Bool.and_eq_true,List.all_eq_true,Bool.not_eq_true',decide_eq_false_iff_not] at h
  exact ⟨by omega,fun x hx => ⟨hb x hx,by have := h.2 x hx; omega⟩⟩
 ·intro h
  simp only [Bool.and_eq_true,List.all_eq_true,Bool.not_eq_true',decide_eq_false_iff_not]
  exact ⟨by have := h.len; omega,fun x hx => by have := (h.it x hx).2; omega⟩
def r5 (N : Nat) (b : List Int) (st : List (List Int)) (m : List Int) (h a : Int) : List (List Int) × Int × Int :=
 if (cC b).2 ≠ 0 then ([],0,(cC b).2) else if aAB (cC b).1 = false then ([],0,86) else if uN st = false then ([],0,4)
 else if (iW N m h a (cC b).1 ⟨st,[],0⟩).1 = 0 then ((iW N m h a (cC b).1 ⟨st,[],0⟩).2.st,(iW N m h a (cC b).1 ⟨st,[],0⟩).2.c,0) else ([],0,(iW N m h a (cC b).1 ⟨st,[],0⟩).1)
theorem aDs {l : List bC} : aAB l = true ↔ mV l [] = some [] := by
 unfold aAB
 cases mV l [] with
 | none => simp
 | some q => cases q <;> simp; omega
section
variable {N : Nat} (hN : 70000 ≤ N) {m : List Int} (hm : m.length = 32) (hb : Byt m)
include hN hm hb
theorem aK9 {b : List Int} (hbb : Byt b) {st : List (List Int)} (h a : Int) (hp : (cC b).2 = 0) (hn : aAB (cC b).1 = true) (hw : WS st) (he : (iW N m h a (cC b).1 ⟨st,[],0⟩).1 = 0) : OkS (iW N m h a (cC b).1 ⟨st,[],0⟩).2 ∧ (iW N m h a (cC b).1 ⟨st,[],0⟩).2.br = [] := by
 obtain ⟨p1,p2,_⟩ := aCo hbb hp
 obtain ⟨g1,_,g3⟩ := aKQ hN hm hb (h := h) (a := a) (cC b).1 ⟨st,[],0⟩ [] [] p1 ⟨hw,by simp⟩ rfl (aDs.1 hn) (by simp; omega) he
 exact ⟨g1,aAb.2 g3⟩
theorem aQ3 {b : List Int} (hbb : Byt b) {st : List (List Int)} (hst : ∀ x ∈ st,Byt x) (h a : Int) : zQ N b st m h a = some (r5 N b st m h a) := by
 unfold zQ r5
 rw [aOD hN hbb]
 simp only [Option.bind_some]
 by_cases hp : (cC b).2 = 0
 ·obtain ⟨p1,p2,_⟩ := aCo hbb hp
  rw [if_neg (by simpa using hp),hp,aMp hN (by omega),aLZ hN]
  simp only [Option.bind_some,show ((0 : Int) != 0) = false from rfl,Bool.false_eq_true,if_false]
  cases hn : aAB (cC b).1 with
  | false => rfl
  | true =>
   cases hB : uN st with
   | false => rfl
   | true =>
    have hw := (aHR hst).1 hB
    have hl := hw.len
    have lp := aJd hN hm hb (h := h) (a := a) (cC b).1 (cC b).2 p1 (by omega) N 0 ⟨st,[],0⟩ [] [] (by omega) (by omega) ⟨hw,by simp⟩ rfl (aDs.1 hn) (by simp)
    rw [show ((0 : Nat) : Int) = 0 from rfl,List.drop_zero] at lp
    simp only [Bool.not_true,Bool.false_eq_true,Bool.true_eq_false,if_false,aIg hN (show st.length ≤ 1000 by omega) (fun x hx => (hw.it x hx).2),Option.bind_some]
    rw [show (k7 N (cC b) N 0 m h a 0 st []) = _ from lp]
    simp only [Option.bind_some,aOd]
    by_cases he : (iW N m h a (cC b).1 ⟨st,[],0⟩).1 = 0
    ·obtain ⟨g1,_⟩ := aK9 hN hm hb hbb h a hp hn hw he
     have gl := g1.ws.len
     rw [if_pos he,if_pos he]
     simp only [wQ,aIg hN (show (iW N m h a (cC b).1 ⟨st,[],0⟩).2.st.length ≤ 1000 by omega) (fun x hx => (g1.ws.it x hx).2),Option.bind_some]
     rfl
    ·rw [if_neg he,if_neg he]; rfl
 ·rw [if_pos hp,show ((cC b).2 != 0) = true by simpa using hp]; rfl
end
def aFL (r : List (List Int) × Int × Int) : Int := if r.2.2 ≠ 0 then r.2.2 else if r.1.length ≠ 1 then 81 else if qG (r.1.getD 0 []) then 0 else 84
section
variable {N : Nat} (hN : 70000 ≤ N) {m : List Int} (hm : m.length = 32) (hb : Byt m)
include hN hm hb
theorem aPY {b : List Int} (hbb : Byt b) {st : List (List Int)} (hst : ∀ x ∈ st,Byt x) {h a : Int} (h0 : (r5 N b st m h a).2.2 = 0) : (cC b).2 = 0 ∧ aAB (cC b).1 = true ∧ WS st ∧ (iW N m h a (cC b).1 ⟨st,[],0⟩).1 = 0 ∧ OkS (iW N m h a (cC b).1 ⟨st,[],0⟩).2 ∧ (iW N m h a (cC b).1 ⟨st,[],0⟩).2.br = [] ∧ r5 N b st m h a = ((iW N m h a (cC b).1 ⟨st,[],0⟩).2.st,(iW N m h a (cC b).1 ⟨st,[],0⟩).2.c,0) := by
 unfold r5 at h0 ⊢
 by_cases hp : (cC b).2 ≠ 0
 ·rw [if_pos hp] at h0; exact absurd h0 hp
 ·simp only [if_neg hp] at h0 ⊢
  by_cases hn : aAB (cC b).1 = false
  ·rw [if_pos hn] at h0; cases h0
  ·simp only [if_neg hn] at h0 ⊢
   by_cases hB : uN st = false
   ·rw [if_pos hB] at h0; cases h0
   ·simp only [if_neg hB] at h0 ⊢
    by_cases he : (iW N m h a (cC b).1 ⟨st,[],0⟩).1 = 0
    ·have hn' : aAB (cC b).1 = true := by simpa using hn
     have hw := (aHR hst).1 (by simpa using hB)
     have hp' : (cC b).2 = 0 := by simpa using hp
     obtain ⟨g1,g2⟩ := aK9 hN hm hb hbb h a hp' hn' hw he
     rw [if_pos he]
     exact ⟨hp',hn',hw,he,g1,g2,rfl⟩
    ·rw [if_neg he] at h0; exact absurd h0 he
theorem aRA {b : List Int} (hbb : Byt b) {st : List (List Int)} (hst : ∀ x ∈ st,Byt x) (h a : Int) : oU N b st m h a = some (aFL (r5 N b st m h a)) := by
 unfold oU aFL
 rw [aQ3 hN hm hb hbb hst]
 simp only [Option.bind_some]
 by_cases h0 : (r5 N b st m h a).2.2 = 0
 ·obtain ⟨_,_,_,_,g,_,e⟩ := aPY hN hm hb hbb hst h0
  rw [if_neg (show ¬ (r5 N b st m h a).2.2 ≠ 0 from fun h => h h0),show ((r5 N b st m h a).2.2 != 0) = false by simpa using h0]
  simp only [Bool.false_eq_true,if_false]
  have hw : ∀ x ∈ (r5 N b st m h a).1,x.length ≤ 520 := fun x hx => by rw [e] at hx; exact (g.ws.it x hx).2
  generalize (r5 N b st m h a).1 = l at hw ⊢
  match l with
  | [] => rfl
  | [x] =>
   have hx := hw x (by simp)
   simp only [aJ1,Option.bind_some,aDM hN (show x.length ≤ 60000 by omega)]
   show (if (!qG x) = true then some 84 else some 0) = some (if qG x = true then 0 else 84)
   cases qG x <;> rfl
  | x :: y :: r =>
   have e1 : ((((x :: y :: r).length : Nat) : Int) != 1) = true := by simp; omega
   have e2 : (x :: y :: r).length ≠ 1 := by simp
   rw [e1,if_pos e2]; rfl
 ·rw [if_pos h0,show ((r5 N b st m h a).2.2 != 0) = true by simpa using h0]; rfl
end
section
variable {N : Nat} (hN : 70000 ≤ N)
include hN
theorem aMt (c s : Nat) : uH N (U c) (U s) = some (bT c ++ bT s) := by
 unfold uH
 rw [bI,Option.bind_some,aCu N hN,Option.bind_some,bI,Option.bind_some,aCu N hN,Option.bind_some,aGl hN _ (by simp) (by simp [bZ])]
 simp
theorem aRm (n : Nat) : q6 32 (bT n) = some (bT n) := by
 unfold q6
 rw [if_pos (by rw [bZ]; exact Nat.le_refl _),List.take_of_length_le (by rw [bZ]; exact Nat.le_refl _)]
end
theorem aPV (b : Nat) (hb : b < 2 ^ 256) (h : ((List.range 256).all fun j => pm' 4 gP 256 b * 4 ^ j % gP != 1) = true) {j : Nat} (hj : j < 256) : 4 ^ (b + j) % gP ≠ 1 := by
 have := List.all_eq_true.1 h j (List.mem_range.2 hj)
 rw [aKb,aLW 4 gP 256 b hb,Nat.mul_mod,Nat.mod_mod,← Nat.mul_mod,← Nat.pow_add] at this
 simpa using this
abbrev aI6 : Nat := 411376139330301510538742295639337626245683966408394965837152256
theorem aQ6 {j : Nat} (hj : j < 256) : 4 ^ (aI6 + j) % gP ≠ 1 := aPV aI6 (by decide +kernel) (by decide +kernel) hj
theorem aRy {v : Nat} (hv : v < 256) : aAI [0,0,0,0,0,1,0,0,0,0,0,0,0,0,0,0,0,0,0,0,0,0,0,0,0,0,0,0,0,0,0,(v : Int)] = aI6 + v := by
 have h : (v % 256) = v := Nat.mod_eq_of_lt hv
 simp [aAI,vG,byF,vl,h]
 show _ = 411376139330301510538742295639337626245683966408394965837152256 + v
 omega
structure Pz (b : List Int) (l : List bC) : Prop where
 byt : Byt b
 eq : cC b = (l,0)
theorem Pz.app {a b : List Int} {x y : List bC} (ha : Pz a x) (hb : Pz b y) (hl : a.length + b.length ≤ 520) : Pz (a ++ b) (x ++ y) :=
 ⟨ha.byt.append hb.byt,by rw [aLD ha.byt hb.byt (by rw [ha.eq]) (by rw [hb.eq]) hl,ha.eq,hb.eq]⟩
def zS (d : List Int) : List Int := 1 :: ((d.length : Nat) : Int) :: d
theorem aA1 (d : List Int) : (zS d).length = d.length + 2 := rfl
theorem Pz.push {d : List Int} (hb : Byt d) (hl : d.length ≤ 255) : Pz (zS d) [⟨1,d,0,0⟩] := by
 refine ⟨fun x hx => ?_, ?_⟩
 ·simp only [zS,List.mem_cons] at hx
  rcases hx with rfl | rfl | hx
  ·omega
  ·omega
  ·exact hb x hx
 ·unfold cC
  rw [if_neg (by rw [aA1]; omega)]
  have hn : gV 1 (((d.length : Nat) : Int) :: d) = (⟨1,d,0,0⟩,[],0) := by
   unfold gV
   rw [if_neg (by omega),if_pos rfl]
   simp only [Int.lt_irrefl,if_false,Int.toNat_natCast,List.take_length,List.drop_length]
  unfold zS fX
  simp only [hn]
  rfl
theorem Pz.code {c : Int} (h : c ∈ [3,10,12,13,14,15,16]) : Pz [c] [⟨c,[],0,0⟩] := by
 simp only [List.mem_cons,List.not_mem_nil,or_false] at h
 rcases h with rfl | rfl | rfl | rfl | rfl | rfl | rfl <;> exact ⟨by intro x hx; simp at hx; omega,by rfl⟩
theorem aMX {N : Nat} {m : List Int} {h a : Int} {d : List Int} {st : List (List Int)} {br : List aN} (hbr : aCG br = ⟨true,true⟩) {c : Int} (hs : st.length < 64) (hc : c + 1 ≤ 500) : pN N m h a ⟨1,d,0,0⟩ ⟨st,br,c⟩ = (0,⟨st ++ [d],br,c + 1⟩) := by
 have h2 : aAM st d = (0,st ++ [d]) := by unfold aAM; rw [if_neg (by omega)]
 unfold pN
 rw [show aB6 ⟨1,d,0,0⟩ br = true by simp [aB6,hbr],if_pos rfl,show pQ ⟨1,d,0,0⟩ = 1 from rfl,if_neg (show ¬ 500 < c + 1 by omega),show sW ⟨1,d,0,0⟩ = 0 from rfl,if_neg (show ¬ ((st.length : Nat) : Int) < 0 by omega)]
 simp [aEX,aAU,h2]
def aHj (ss : List (List Int)) : Nat := (ss.filter fun x => decide (0 < (x.length : Int))).length
theorem aJW {N : Nat} {m : List Int} : ∀ (ks ss : List (List Int)) (c : Int),ks.length = ss.length → (∀ p ∈ ks.zip ss,rH N m p.1 p.2 = 0) → xB N m ks ss c = (0,c + (aHj ss : Nat))
 | [],[],c,_,_ => by simp [xB,aHj]
 | [],_ :: _,_,hl,_ => by simp at hl
 | _ :: _,[],_,hl,_ => by simp at hl
 | k :: ks,s :: ss,c,hl,hv => by
  have h1 : rH N m k s = 0 := hv (k,s) (by simp)
  have ih := fun c' => aJW ks ss c' (by simpa using hl) (fun p hp => hv p (by simp [hp]))
  rw [xB,h1]
  simp only [show ((0 : Int) != 0) = false from rfl,Bool.false_eq_true,if_false,ih]
  unfold aHj
  by_cases hp : decide (0 < (s.length : Int)) = true
  ·rw [if_pos hp,List.filter_cons_of_pos (p := fun x : List Int => decide (0 < (x.length : Int))) hp,List.length_cons]
   congr 1
   omega
  ·rw [if_neg hp,List.filter_cons_of_neg (p := fun x : List Int => decide (0 < (x.length : Int))) hp]
theorem aLf {N : Nat} {m : List Int} {ks ss : List (List Int)} (dV : Int) (hl : ks.length = ss.length) (hv : ∀ p ∈ ks.zip ss,rH N m p.1 p.2 = 0) : n6 N m (ss ++ ks) dV ks.length = (0,[yO (decide (dV ≤ (aHj ss : Nat)))]) := by
 have e1 : (ss ++ ks).drop ((ss ++ ks).length - ks.length) = ks := by
  rw [List.length_append,Nat.add_sub_cancel,List.drop_left]
 have e2 : ((ss ++ ks).take ((ss ++ ks).length - ks.length)).drop ((ss ++ ks).length - 2 * ks.length) = ss := by
  rw [List.length_append,Nat.add_sub_cancel,List.take_left,show ss.length + ks.length - 2 * ks.length = 0 by omega,List.drop_zero]
 have e3 : (ss ++ ks).take ((ss ++ ks).length - 2 * ks.length) = [] := by
  rw [List.length_append,show ss.length + ks.length - 2 * ks.length = 0 by omega,List.take_zero]
 unfold n6
 rw [e1,e2,e3,aJW ks ss 0 hl hv,if_pos rfl]
 simp
def aTJ (p : Nat) : bC := ⟨1,bT p,0,0⟩
section
variable {N : Nat} (hN : 70000 ≤ N)
include hN
omit hN in
def aTM (o : bC) : List Int := if o.Code = 1 then zS o.Data else [o.Code,o.M,o.N]
omit hN in
omit hN in
end
theorem aRj {N : Nat} {m : List Int} {h a : Int} {b : List Int} {l : List bC} {st : List (List Int)} {x : List Int} {c : Int} (hp : Pz b l) (hn : mV l [] = some []) (hb : uN st = true) (hr : iW N m h a l ⟨st,[],0⟩ = (0,⟨[x],[],c⟩)) : aFL (r5 N b st m h a) = if qG x then 0 else 84 := by
 have hn' := aDs.2 hn
 have e : r5 N b st m h a = ([x],c,0) := by
  unfold r5
  rw [hp.eq]
  simp [hn',hb,hr]
 rw [e]
 rfl
theorem aPy {N : Nat} {m : List Int} {h a : Int} {b : List Int} {l : List bC} {st : List (List Int)} (hp : Pz b l) (hn : mV l [] = some []) (hb : uN st = true) (hr : (iW N m h a l ⟨st,[],0⟩).1 ≠ 0) : aFL (r5 N b st m h a) = (iW N m h a l ⟨st,[],0⟩).1 := by
 have hn' := aDs.2 hn
 have e : r5 N b st m h a = ([],0,(iW N m h a l ⟨st,[],0⟩).1) := by
  unfold r5
  rw [hp.eq]
  simp [hn',hb,hr]
 rw [e]
 unfold aFL
 rw [if_pos hr]
theorem aL3 (v : Bool) : qG (yO v) = v := by cases v <;> rfl
theorem aPv (N : Nat) (m key sig : List Int) {e : Int} (h : cQ N m 0 0 [] [] 0 key sig = some e) : rH N m key sig = e := by simp [rH,h]
section
variable {N : Nat} (hN : 70000 ≤ N)
include hN
theorem aNh {k x c : Nat} (hc : c < gQ) (h1 : 4 ^ x % gP ≠ 1) (hcv : c = c) {m : List Int} (hm : m.length = 32) (hb : Byt m) :
  qO N (U (4 ^ x % gP)) m (U c) (U ((k + c * x) % gQ)) = some (decide (c = tH N (4 ^ k % gP) (4 ^ x % gP) m)) := by
 have hch := aKD hN (4 ^ k % gP) (4 ^ x % gP) hm hb
 have hcl := aCN N (4 ^ k % gP) (4 ^ x % gP) m
 generalize tH N (4 ^ k % gP) (4 ^ x % gP) m = e at *
 have hs : (k + c * x) % gQ < gQ := Nat.mod_lt _ (by decide +kernel)
 have hv := aPQ (k := k) (x := x) (Nat.le_of_lt hc)
 generalize (k + c * x) % gQ = s at *
 have hp := aGG (4 ^ x)
 have hc4 := Nat.lt_trans hc o7
 have he4 := Nat.lt_trans hcl o7
 have hs4 := Nat.lt_trans hs o7
 have hd : (gQ + 115792089237316195423570985008687907853269984665640564039457584007913129639936 - c) % 115792089237316195423570985008687907853269984665640564039457584007913129639936 = gQ - c := by
  have := o7
  revert hc this
  generalize gQ = Q
  intro hc this
  omega
 have hd4 : gQ - c < 115792089237316195423570985008687907853269984665640564039457584007913129639936 := Nat.lt_of_le_of_lt (Nat.sub_le _ _) o7
 unfold qO
 rw [bI,Option.bind_some,uP hN hc4,Option.bind_some,decide_eq_true (show c < 57896044618658097711785492504343953926634992332820282019728792003956564801911 from hc)]
 simp only [Bool.not_true,Bool.false_eq_true,if_false]
 rw [bI,Option.bind_some,uP hN hs4,Option.bind_some,decide_eq_true (show s < 57896044618658097711785492504343953926634992332820282019728792003956564801911 from hs)]
 simp only [Bool.not_true,Bool.false_eq_true,if_false]
 rw [bI,Option.bind_some,aK7 hN h1,Option.bind_some]
 unfold jR
 simp only [Bool.not_true,Bool.false_eq_true,if_false]
 rw [aBU,Option.bind_some,bI,Option.bind_some,aE6 hN (show gQ < _ from o7) hc4,Option.bind_some,hd]
 simp only [bI,Option.bind_some]
 rw [aNQ hN hs4,Option.bind_some,aE7 hN hp hd4,Option.bind_some,aLs hN (aGG _) (aGG _),Option.bind_some,show 4 ^ s % gP * ((4 ^ x % gP) ^ (gQ - c) % gP) % gP = 4 ^ k % gP from hv,bI,Option.bind_some,cR hm,Option.bind_some,hch,Option.bind_some,bI,Option.bind_some,aCi hc4 he4]
theorem aRX {k x c : Nat} (hc : c < gQ) (h1 : 4 ^ x % gP ≠ 1) {m : List Int} (hm : m.length = 32) (hb : Byt m) :
  rH N m (bT (4 ^ x % gP)) (bT c ++ bT ((k + c * x) % gQ)) = if c = tH N (4 ^ k % gP) (4 ^ x % gP) m then 0 else 61 := by
 have hv := aNh hN (k := k) hc h1 rfl hm hb
 have hd := aOf hN hc (Nat.mod_lt (k + c * x) (show 0 < gQ by decide +kernel))
 have hl : (bT c ++ bT ((k + c * x) % gQ)).length = 64 := by simp [bZ]
 generalize bT c ++ bT ((k + c * x) % gQ) = sg at *
 refine aPv _ _ _ _ ?_
 unfold cQ
 rw [if_neg (by rw [bZ]; decide),aRm hN,Option.bind_some,aAF hN,Option.bind_some,bI,Option.bind_some,aK7 hN h1,Option.bind_some]
 simp only [Bool.not_true,Bool.false_eq_true,if_false]
 rw [if_neg (by rw [hl]; decide),hd,Option.bind_some]
 simp only [bI,Option.bind_some,cR hm,hv]
 by_cases he : c = tH N (4 ^ k % gP) (4 ^ x % gP) m
 ·rw [if_pos he,decide_eq_true he]; rfl
 ·rw [if_neg he,decide_eq_false he]; rfl
theorem aQA {k x : Nat} (h0 : x ≠ 0) (hx : x < gQ) (hk : k < gQ) {m : List Int} (hm : m.length = 32) (hb : Byt m) (hn : kA N (U x) m = some (U k)) :
  zK N (U x) m = some (U (tH N (4 ^ k % gP) (4 ^ x % gP) m),U ((k + tH N (4 ^ k % gP) (4 ^ x % gP) m * x) % gQ),0) := by
 have hc := aCN N (4 ^ k % gP) (4 ^ x % gP) m
 have hcx : tH N (4 ^ k % gP) (4 ^ x % gP) m * x % gQ < gQ := Nat.mod_lt _ (by decide)
 unfold zK
 rw [bI,Option.bind_some,aEC hN h0 hx,Option.bind_some,bI,Option.bind_some]
 simp only [show ((0 : Int) != 0) = false from rfl,Bool.false_eq_true,if_false,cR hm,Option.bind_some,hn,bI]
 rw [aFp hN (Nat.lt_trans hk o7),Option.bind_some,aB3 hN _ _ hm hb,Option.bind_some,bI,Option.bind_some,aJr hN (Nat.lt_trans hc o7) (Nat.lt_trans hx o7),Option.bind_some,aD3 hN (Nat.lt_trans hk o7) (Nat.lt_trans hcx o7),Option.bind_some,bI,Option.bind_some,Nat.add_mod_mod]
theorem aM0 (p : Nat) : u2 N (U p) = some (zS (bT p) ++ [10]) := by
 have hj : jG N [[1,IntKind.u8.wrap ((bT p).length : Int)],bT p] = some (zS (bT p)) := by
  rw [aGl hN _ (by simp) (by simp [bZ])]
  simp only [bZ,zS,List.flatten_cons,List.flatten_nil,List.append_nil]
  rfl
 unfold u2 aCq aBm zJ
 simp only [bI,aJJ N hN,Option.bind_some,cR (bZ p),show ((1 : Int) == 1) = true from rfl,if_true,hj]
 rw [aGl hN _ (by simp) (by simp [aA1,bZ]),Option.bind_some]
 simp
end
theorem aL9 {N : Nat} {m : List Int} {h a : Int} {p : Nat} {sg : List Int} (hl : sg.length = 64) :
  aFL (r5 N (zS (bT p) ++ [10]) [sg] m h a) = rH N m (bT p) sg := by
 have hpz : Pz (zS (bT p) ++ [10]) ([⟨1,bT p,0,0⟩] ++ [⟨10,[],0,0⟩]) := (Pz.push (r6 p) (by rw [bZ]; omega)).app (Pz.code (c := 10) (by simp)) (by rw [aA1,bZ]; decide)
 have hnest : mV ([(⟨1,bT p,0,0⟩ : bC)] ++ [⟨10,[],0,0⟩]) [] = some [] := rfl
 have hbd : uN [sg] = true := by
  unfold uN
  simp [hl]
 have hp := aMX (N := N) (m := m) (h := h) (a := a) (d := bT p) (st := [sg]) (br := []) rfl (c := 0) (by simp) (by omega)
 have hsig : pN N m h a ⟨10,[],0,0⟩ ⟨[sg] ++ [bT p],[],0 + 1⟩ = ((n6 N m ([sg] ++ [bT p]) 1 1).1,⟨(n6 N m ([sg] ++ [bT p]) 1 1).2,[],0 + 1 + 21⟩) := by
  unfold pN
  rw [show aB6 ⟨10,[],0,0⟩ [] = true from rfl,if_pos rfl,show pQ ⟨10,[],0,0⟩ = 21 from rfl,if_neg (show ¬ (500 : Int) < 0 + 1 + 21 by decide),show sW ⟨10,[],0,0⟩ = 2 from rfl,if_neg (show ¬ ((([sg] ++ [bT p]).length : Nat) : Int) < 2 by simp)]
  rfl
 by_cases hv : rH N m (bT p) sg = 0
 ·have hs := aLf (N := N) (m := m) (ks := [bT p]) (ss := [sg]) 1 rfl (fun q hq => by
   simp at hq
   subst hq
   exact hv)
  have hc : aHj [sg] = 1 := by simp [aHj,hl]
  rw [List.length_singleton,hc] at hs
  have hr : iW N m h a ([(⟨1,bT p,0,0⟩ : bC)] ++ [⟨10,[],0,0⟩]) ⟨[sg],[],0⟩ = (0,⟨[yO true],[],0 + 1 + 21⟩) := by
   rw [show [(⟨1,bT p,0,0⟩ : bC)] ++ [⟨10,[],0,0⟩] = ⟨1,bT p,0,0⟩ :: ⟨10,[],0,0⟩ :: [] from rfl,iW,hp,if_pos rfl]
   dsimp only
   rw [iW,hsig,hs,if_pos rfl]
   rfl
  rw [aRj hpz hnest hbd hr,aL3,hv]
  rfl
 ·have hs : (n6 N m ([sg] ++ [bT p]) 1 1).1 = rH N m (bT p) sg := by
   have e : (xB N m (([sg] ++ [bT p]).drop (([sg] ++ [bT p]).length - 1)) ((([sg] ++ [bT p]).take (([sg] ++ [bT p]).length - 1)).drop (([sg] ++ [bT p]).length - 2 * 1)) 0) = (rH N m (bT p) sg,0) := by
    show xB N m [bT p] [sg] 0 = _
    rw [xB,if_pos (by simpa using hv)]
   unfold n6
   rw [e,if_neg hv]
  have hr : (iW N m h a ([(⟨1,bT p,0,0⟩ : bC)] ++ [⟨10,[],0,0⟩]) ⟨[sg],[],0⟩).1 = rH N m (bT p) sg := by
   rw [show [(⟨1,bT p,0,0⟩ : bC)] ++ [⟨10,[],0,0⟩] = ⟨1,bT p,0,0⟩ :: ⟨10,[],0,0⟩ :: [] from rfl,iW,hp,if_pos rfl]
   dsimp only
   rw [iW,hsig,if_neg (by rw [hs]; exact hv),hs]
  rw [aPy hpz hnest hbd (by rw [hr]; exact hv),hr]
def shV (v : Int) (i : Nat) : Int := IntKind.u8.wrap (v.fdiv (2 ^ (min (8 * i) 64)))
def yP (w : Nat) (v : Int) : List Int := (List.range w).map (shV v)
theorem wW (w : Nat) (v : Int) : (yP w v).length = w := by simp [yP]
theorem aSG (v : Int) (i : Nat) (hi : i ≤ 100) : ∃ y,shr .u64 v (IntKind.i64.wrap (8 * (i : Int))) = some y ∧ IntKind.u8.wrap y = shV v i := by
 refine ⟨_, ?_,rfl⟩
 rw [cG (by omega) (by omega)]
 unfold shr
 rw [if_neg (by omega)]
 congr 3
theorem aNv (w : Nat) (v : Int) (j : Nat) (hj : j < w) : (((List.range j).map (shV v)) ++ List.replicate (w - j) 0).set j (shV v j) = ((List.range (j + 1)).map (shV v)) ++ List.replicate (w - (j + 1)) 0 := by
 rw [List.set_append_right _ _ (by simp),show w - j = (w - (j + 1)) + 1 by omega,List.replicate_succ,List.range_succ,List.map_append,List.append_assoc]
 simp
theorem aIY {f : Nat → Int → List Int → Option (List Int)} (w : Nat) (v : Int) (hw : w ≤ 100)
  (hs : ∀ m j acc,j < w → acc.length = w → f (m + 1) (j : Int) acc = f m ((j + 1 : Nat) : Int) (acc.set j (shV v j))) (he : ∀ m acc,acc.length = w → f (m + 1) (w : Int) acc = some acc) :
  ∀ (m j : Nat),w - j < m → j ≤ w → f m (j : Int) (((List.range j).map (shV v)) ++ List.replicate (w - j) 0) = some (yP w v)
 | 0,j,hm,_ => by omega
 | m + 1,j,hm,hj => by
  by_cases h : j < w
  ·rw [hs m j _ h (by simp; omega),aNv w v j h]
   exact aIY w v hw hs he m (j + 1) (by omega) (by omega)
  ·have : j = w := by omega
   subst this
   rw [he m _ (by simp),Nat.sub_self]
   simp [yP]
theorem aEJ (N : Nat) (hN : 70000 ≤ N) (v : Int) (w : Nat) (hw : w ≤ 100) : o4 N v (w : Int) = some (yP w v) := by
 have hmk : mks 1 (0 : Int) (w : Int) = some (List.replicate w 0) := aJh (by have := lP; omega)
 have := aIY (f := i6 N v (w : Int)) w v hw (fun m j acc hj hl => by
   obtain ⟨y,h1,h2⟩ := aSG v j (by omega)
   rw [i6,dT hj,if_pos rfl,h1,b9 acc (by omega : j < acc.length)]
   simp only [Option.bind_some,Int.toNat_natCast,h2,i1 (show j ≤ 100000 by omega)])
  (fun m acc hl => by rw [i6,dF (Nat.lt_irrefl w)]; rfl) N 0 (by omega) (by omega)
 simp only [o4,hmk,Option.bind_some,tZ]
 simp only [List.range_zero,List.map_nil,List.nil_append,Nat.sub_zero] at this
 rw [show ((0 : Nat) : Int) = 0 from rfl] at this
 rw [this]; rfl
theorem r9 (N : Nat) (b v : List Int) (h : b.length + v.length ≤ 50000000) : fJ N b v = some (b ++ v) := by
 have hmk : mks 1 (0 : Int) (IntKind.i64.wrap ((b.length : Int) + (v.length : Int))) = some (List.replicate (b.length + v.length) 0) := by
  rw [cG (by omega) (by omega),show (b.length : Int) + (v.length : Int) = ((b.length + v.length : Nat) : Int) by omega]
  exact aJh (by have := lP; omega)
 simp only [fJ,hmk,Option.bind_some,List.take_zero]
 rw [j7 (by simp; omega)]
 simp only [Option.bind_some,List.nil_append]
 rw [j7 (by omega)]; rfl
def uE (v : Int) : List Int := yP 4 (IntKind.u64.wrap v)
def aNE (v : Int) : List Int := yP 8 v
theorem gG (v : Int) : (uE v).length = 4 := wW _ _
theorem aDg (v : Int) : (aNE v).length = 8 := wW _ _
section
variable (N : Nat) (hN : 70000 ≤ N)
include hN
theorem aHA (b : List Int) (v : Int) (h : b.length ≤ 40000000) : fP N b v = some (b ++ uE v) := by
 simp only [fP,show (4 : Int) = ((4 : Nat) : Int) from rfl,aEJ N hN _ 4 (by omega),Option.bind_some]
 rw [r9 N _ _ (by rw [wW]; omega)]; rfl
theorem aQY (b : List Int) (v : Int) (h : b.length ≤ 40000000) : k4 N b v = some (b ++ aNE v) := by
 simp only [k4,show (8 : Int) = ((8 : Nat) : Int) from rfl,aEJ N hN _ 8 (by omega),Option.bind_some]
 rw [r9 N _ _ (by rw [wW]; omega)]; rfl
end
theorem wu (k : IntKind) (n : Nat) (hk : k.signed = false) (h : (n : Int) < 2 ^ k.bits) : k.wrap (n : Int) = n := by
 rw [aGF hk]; exact Int.emod_eq_of_lt (by omega) h
def szB (n : Nat) : List Int := if n < 253 then yP 1 n else if n < 65536 then 253 :: yP 2 n else 254 :: yP 4 n
theorem nX (n : Nat) : 1 ≤ (szB n).length ∧ (szB n).length ≤ 5 := by
 unfold szB
 split
 ·simp [wW]
 ·split <;> simp [wW]
theorem aSI (n : Nat) (h : n < 256) : yP 1 (n : Int) = [IntKind.u8.wrap (n : Int)] := by
 simp [yP,shV,List.range_succ]
section
variable (N : Nat) (hN : 70000 ≤ N)
include hN
theorem aIQ (b : List Int) (n : Nat) (hn : n ≤ 1000000) (h : b.length ≤ 30000000) : hZ N b (IntKind.u64.wrap (n : Int)) = some (b ++ szB n) := by
 rw [wu .u64 n rfl (by simp [IntKind.bits]; omega)]
 unfold hZ szB
 by_cases h1 : n < 253
 ·have e1 : decide ((n : Int) < 253) = true := decide_eq_true (by omega)
  rw [e1,if_pos rfl,if_pos h1,r9 N _ _ (by simp; omega),aSI n (by omega)]; rfl
 ·have e1 : decide ((n : Int) < 253) = false := decide_eq_false (by omega)
  rw [e1,if_neg h1]
  by_cases h2 : n < 65536
  ·have e2 : decide ((n : Int) < 65536) = true := decide_eq_true (by omega)
   simp only [e2,Bool.false_eq_true,if_false,if_true,if_pos h2]
   rw [r9 N _ _ (by simp; omega)]
   simp only [Option.bind_some,tS,show (2 : Int) = ((2 : Nat) : Int) from rfl,aEJ N hN _ 2 (by omega)]
   rw [wu .u16 n rfl (by simp [IntKind.bits]; omega),wu .u64 n rfl (by simp [IntKind.bits]; omega),r9 N _ _ (by simp [wW]; omega)]
   simp
  ·have e2 : decide ((n : Int) < 65536) = false := decide_eq_false (by omega)
   have e3 : decide ((n : Int) < 4294967296) = true := decide_eq_true (by omega)
   simp only [e2,e3,Bool.false_eq_true,if_false,if_true,if_neg h2]
   rw [r9 N _ _ (by simp; omega)]
   simp only [Option.bind_some]
   rw [aHA N hN (b ++ [254]) _ (by simp; omega),wu .u32 n rfl (by simp [IntKind.bits]; omega)]
   simp only [uE,wu .u64 n rfl (show (n : Int) < 2 ^ IntKind.u64.bits by simp [IntKind.bits]; omega),Option.bind_some,List.append_assoc]
   rfl
theorem aJx (b s : List Int) (hs : s.length ≤ 1000000) (h : b.length ≤ 30000000) : iZ N b s = some (b ++ (szB s.length ++ s)) := by
 have := nX s.length
 simp only [iZ,aIQ N hN b _ hs (by omega),Option.bind_some]
 rw [r9 N _ _ (by rw [List.length_append]; omega),Option.bind_some,List.append_assoc]
theorem aMH (t : List Int) (i : Int) (ht : t.length = 32) : aAj N t i = some (t ++ uE i) := by
 simp only [aAj,sC,aX,if_pos ht,Option.bind_some]
 rw [r9 N _ _ (by simp; omega)]
 simp only [Option.bind_some,List.nil_append]
 rw [aHA N hN _ _ (by omega)]; rfl
def r3 (o : aE) : List Int := aNE (IntKind.u64.wrap o.Value) ++ (szB o.Script.length ++ o.Script)
end
structure aCd (ins : List aF) (outs : List aE) : Prop where
 ni : ins.length ≤ 70
 no : outs.length ≤ 70
 wit : ∀ x ∈ ins,x.Witness.length ≤ 40 ∧ ∀ w ∈ x.Witness,w.length ≤ 600
 scr : ∀ o ∈ outs,o.Script.length ≤ 600
 tx : ∀ x ∈ ins,x.Prev.Tx.length = 32
def inB (x : aF) : List Int := (x.Prev.Tx ++ uE x.Prev.Index) ++ uE x.Sequence
def itB (w : List Int) : List Int := szB w.length ++ w
def wiB (x : aF) : List Int := szB x.Witness.length ++ x.Witness.flatMap itB
def aLj (v : Int) (ins : List aF) (outs : List aE) (lock : Int) (wit : Bool) : List Int :=
 ((((uE v ++ szB ins.length) ++ ins.flatMap inB) ++ szB outs.length) ++ outs.flatMap r3) ++ uE lock ++ (if wit then ins.flatMap wiB else [])
theorem pL {α : Type} {g : α → List Int} {c : Nat} : ∀ (l : List α),(∀ x ∈ l,(g x).length ≤ c) → (l.flatMap g).length ≤ l.length * c
 | [],_ => by simp
 | x :: l,h => by
  have h1 := h x (by simp)
  have h2 := pL l (fun y hy => h y (by simp [hy]))
  rw [List.flatMap_cons,List.length_append,List.length_cons,Nat.add_mul,Nat.one_mul]; omega
theorem aMK {w : List Int} (h : w.length ≤ 600) : (itB w).length ≤ 605 := by have := nX w.length; simp only [itB,List.length_append]; omega
theorem aRd {x : aF} (h : x.Witness.length ≤ 40 ∧ ∀ w ∈ x.Witness,w.length ≤ 600) : (wiB x).length ≤ 24205 := by
 have h1 := nX x.Witness.length
 have h2 := pL (g := itB) (c := 605) x.Witness (fun w hw => aMK (h.2 w hw))
 have h3 := Nat.mul_le_mul_right 605 h.1
 simp only [wiB,List.length_append]; omega
theorem aHk {x : aF} (h : x.Prev.Tx.length = 32) : (inB x).length = 40 := by simp [inB,gG,h]
theorem aE5 {o : aE} (h : o.Script.length ≤ 600) : (r3 o).length ≤ 613 := by
 have := nX o.Script.length
 simp only [r3,List.length_append,aDg]; omega
theorem aKN {ins : List aF} {outs : List aE} (K : aCd ins outs) : (ins.flatMap inB).length ≤ 2800 := by
 have := pL (g := inB) (c := 40) ins (fun x hx => Nat.le_of_eq (aHk (K.tx x hx)))
 have := Nat.mul_le_mul_right 40 K.ni
 omega
theorem aDq {ins : List aF} {outs : List aE} (K : aCd ins outs) : (outs.flatMap r3).length ≤ 42910 := by
 have := pL (g := r3) (c := 613) outs (fun x hx => aE5 (K.scr x hx))
 have := Nat.mul_le_mul_right 613 K.no
 omega
theorem aPN {ins : List aF} {outs : List aE} (K : aCd ins outs) : (ins.flatMap wiB).length ≤ 1694350 := by
 have := pL (g := wiB) (c := 24205) ins (fun x hx => aRd (K.wit x hx))
 have := Nat.mul_le_mul_right 24205 K.ni
 omega
section
variable (N : Nat) (hN : 70000 ≤ N) {v : Int} {ins : List aF} {outs : List aE} {lock : Int} (K : aCd ins outs)
include hN K
theorem aL8 (b : Bool) (acc : List Int) (h : acc.length ≤ 100000) : kR N v ins outs lock b N 0 acc = some (acc ++ ins.flatMap inB) := by
 have hn := K.ni
 have hl := aKN K
 refine uJ (f := kR N v ins outs lock b) (xs := ins) (g := inB) (B := 200000) (by omega) (fun m j acc hj hB => ?_) (fun m j acc hj => ?_) N 0 acc (by omega) (by omega) (by rw [List.drop_zero]; omega)
 ·have ht := K.tx _ (List.getElem_mem hj)
  rw [aHk ht] at hB
  rw [kR,dT hj,if_pos rfl,b9 ins hj]
  simp only [Option.bind_some,aMH N hN _ _ ht]
  rw [j7 (by simp [gG]; omega)]
  simp only [Option.bind_some,aHA N hN _ _ (show ([] : List Int).length ≤ 40000000 by simp),List.nil_append]
  rw [j7 (by simp [gG]; omega)]
  simp only [Option.bind_some,i1 (show j ≤ 100000 by omega),inB,List.append_assoc]
 ·rw [kR,dF (by omega)]; rfl
theorem aL7 (b : Bool) (acc : List Int) (h : acc.length ≤ 100000) : kJ N v ins outs lock b N 0 acc = some (acc ++ outs.flatMap r3) := by
 have hn := K.no
 have hl := aDq K
 refine uJ (f := kJ N v ins outs lock b) (xs := outs) (g := r3) (B := 200000) (by omega) (fun m j acc hj hB => ?_) (fun m j acc hj => ?_) N 0 acc (by omega) (by omega) (by rw [List.drop_zero]; omega)
 ·have ht := K.scr _ (List.getElem_mem hj)
  have hs := nX outs[j].Script.length
  rw [kJ,dT hj,if_pos rfl,b9 outs hj]
  simp only [Option.bind_some,aQY N hN _ _ (show ([] : List Int).length ≤ 40000000 by simp),List.nil_append]
  rw [j7 (by rw [aDg]; omega)]
  simp only [Option.bind_some,aJx N hN [] _ (show outs[j].Script.length ≤ 1000000 by omega) (by simp),List.nil_append]
  rw [j7 (by simp only [List.length_append,aDg]; omega)]
  simp only [Option.bind_some,i1 (show j ≤ 100000 by omega),r3,List.append_assoc]
 ·rw [kJ,dF (by omega)]; rfl
theorem aL6 (x : Int) (w : aF) (hw : w.Witness.length ≤ 40 ∧ ∀ z ∈ w.Witness,z.length ≤ 600) (acc : List Int) (h : acc.length ≤ 5000000) : kY N ins x w N 0 acc = some (acc ++ w.Witness.flatMap itB) := by
 have hl := pL (g := itB) (c := 605) w.Witness (fun z hz => aMK (hw.2 z hz))
 have := Nat.mul_le_mul_right 605 hw.1
 refine uJ (f := kY N ins x w) (xs := w.Witness) (g := itB) (B := 6000000) (by omega) (fun m j acc hj hB => ?_) (fun m j acc hj => ?_) N 0 acc (by omega) (by omega) (by rw [List.drop_zero]; omega)
 ·have ht := hw.2 _ (List.getElem_mem hj)
  rw [kY,dT hj,if_pos rfl,b9 w.Witness hj]
  simp only [Option.bind_some,aJx N hN [] _ (show w.Witness[j].length ≤ 1000000 by omega) (by simp),List.nil_append]
  rw [j7 (by simp only [itB] at hB; omega)]
  simp only [Option.bind_some,i1 (show j ≤ 100000 by omega),itB]
 ·rw [kY,dF (by omega)]; rfl
theorem aL4 (acc : List Int) (h : acc.length ≤ 1000000) : i7 N ins N 0 acc = some (acc ++ ins.flatMap wiB) := by
 have hn := K.ni
 have hl := aPN K
 refine uJ (f := i7 N ins) (xs := ins) (g := wiB) (B := 4000000) (by omega) (fun m j acc hj hB => ?_) (fun m j acc hj => ?_) N 0 acc (by omega) (by omega) (by rw [List.drop_zero]; omega)
 ·have ht := K.wit _ (List.getElem_mem hj)
  have hs := nX ins[j].Witness.length
  rw [i7,dT hj,if_pos rfl,b9 ins hj]
  simp only [Option.bind_some,aIQ N hN [] _ (show ins[j].Witness.length ≤ 1000000 by omega) (by simp),List.nil_append]
  rw [j7 (by omega)]
  simp only [Option.bind_some]
  rw [aL6 N hN K _ _ ht _ (by rw [List.length_append]; omega)]
  simp only [Option.bind_some,zV,i1 (show j ≤ 100000 by omega),wiB,List.append_assoc]
 ·rw [i7,dF (by omega)]; rfl
theorem aHZ : xW N v ins outs lock true = some (aLj v ins outs lock true) := by
 have hn := K.ni
 have ho := K.no
 have h1 := nX ins.length
 have h2 := nX outs.length
 have h3 := aKN K
 have h4 := aDq K
 simp only [xW,aHA N hN [] _ (by simp),Option.bind_some,List.nil_append,aIQ N hN [] _ (show ins.length ≤ 1000000 by omega) (by simp)]
 rw [j7 (by rw [gG]; omega)]
 simp only [Option.bind_some]
 rw [aL8 N hN K _ _ (by rw [List.length_append,gG]; omega)]
 simp only [Option.bind_some,yU,aIQ N hN [] _ (show outs.length ≤ 1000000 by omega) (by simp),List.nil_append]
 rw [j7 (by simp only [List.length_append,gG]; omega)]
 simp only [Option.bind_some]
 rw [aL7 N hN K _ _ (by simp only [List.length_append,gG]; omega)]
 simp only [Option.bind_some,z4,aHA N hN [] _ (show ([] : List Int).length ≤ 40000000 by simp),List.nil_append]
 rw [j7 (by simp only [List.length_append,gG]; omega)]
 simp only [Option.bind_some,Bool.not_true,Bool.false_eq_true,if_false]
 rw [aL4 N hN K _ (by simp only [List.length_append,gG]; omega)]
 rfl
end
end Go.Proofs.YtnoklhehodlkaaaGreatDoor
set_option maxRecDepth 4000
namespace Go.Proofs.YtnoklhehodlkaaaGreatDoor
open Go Go.Vm
theorem nle (a b : Nat) : decide ((a : Int) < (b : Int)) = !decide (b ≤ a) := by
 by_cases h : a < b
 ·rw [decide_eq_true (by omega),decide_eq_false (by omega)]; rfl
 ·rw [decide_eq_false (by omega),decide_eq_true (by omega)]; rfl
theorem dle (n : Nat) : decide ((n : Int) ≤ 20000) = decide (n ≤ 20000) := by
 by_cases h : n ≤ 20000
 ·rw [decide_eq_true h,decide_eq_true (by omega)]
 ·rw [decide_eq_false h,decide_eq_false (by omega)]
theorem aNJ (N : Nat) (hN : 70000 ≤ N) (l : List (List Int)) (n k : Nat) (hn : n ≤ 1000) : yR N l (n : Int) (k : Int) = some (decide (l.length ≤ n) && l.all fun w => decide (w.length ≤ k)) := by
 unfold yR
 rw [nle]
 by_cases h : l.length ≤ n
 ·rw [decide_eq_true h]
  simp only [Bool.not_true,Bool.false_eq_true,if_false,Bool.true_and]
  have := n8 (f := k8 N l (k : Int)) (xs := l) (p := fun w => decide (w.length ≤ k)) (r := false) (fun m j hj => by
    rw [k8,dT hj,if_pos rfl,b9 l hj]
    simp only [Option.bind_some,nle,i1 (show j ≤ 100000 by omega)]
    cases decide (l[j].length ≤ k) <;> rfl) (fun m j hj => by rw [k8,dF (by omega)]; rfl) N 0 (by omega) (by omega)
  rw [show ((0 : Nat) : Int) = 0 from rfl,List.drop_zero] at this
  rw [this]
  cases l.all fun w => decide (w.length ≤ k) <;> rfl
 ·rw [decide_eq_false h]; rfl
def aIP (x : aF) : Bool := decide (x.Witness.length ≤ 40) && x.Witness.all fun w => decide (w.length ≤ 600)
def aLB (ins : List aF) (outs : List aE) : Bool := decide (ins.length ≤ 70) && decide (outs.length ≤ 70) && ins.all aIP && outs.all fun o => decide (o.Script.length ≤ 600)
theorem aME (N : Nat) (hN : 70000 ≤ N) (v : Int) (ins : List aF) (outs : List aE) (lock : Int) : aC5 N v ins outs lock = some (aLB ins outs) := by
 unfold aC5 aLB
 rw [show (70 : Int) = ((70 : Nat) : Int) from rfl,nle,nle]
 by_cases h : ins.length ≤ 70
 ·rw [decide_eq_true h]
  simp only [Bool.not_true,Bool.false_eq_true,if_false,Bool.true_and,yN]
  by_cases h2 : outs.length ≤ 70
  ·rw [decide_eq_true h2]
   simp only [Bool.not_true,Bool.false_eq_true,if_false,Bool.true_and]
   have l5 := n8 (f := p9 N v ins outs lock) (xs := ins) (p := aIP) (r := false) (fun m j hj => by
     rw [p9,dT hj,if_pos rfl,b9 ins hj]
     simp only [Option.bind_some,show (40 : Int) = ((40 : Nat) : Int) from rfl,show (600 : Int) = ((600 : Nat) : Int) from rfl,aNJ N hN _ 40 600 (by omega),i1 (show j ≤ 100000 by omega)]
     rw [show aIP ins[j] = (decide (ins[j].Witness.length ≤ 40) && ins[j].Witness.all fun w => decide (w.length ≤ 600)) from rfl]
     cases (decide (ins[j].Witness.length ≤ 40) && ins[j].Witness.all fun w => decide (w.length ≤ 600)) <;> rfl) (fun m j hj => by rw [p9,dF (by omega)]; rfl) N 0 (by omega) (by omega)
   have l4 := n8 (f := pW N outs) (xs := outs) (p := fun o => decide (o.Script.length ≤ 600)) (r := false) (fun m j hj => by
     rw [pW,dT hj,if_pos rfl,b9 outs hj]
     simp only [Option.bind_some,show (600 : Int) = ((600 : Nat) : Int) from rfl,nle,i1 (show j ≤ 100000 by omega)]
     cases decide (outs[j].Script.length ≤ 600) <;> rfl) (fun m j hj => by rw [pW,dF (by omega)]; rfl) N 0 (by omega) (by omega)
   rw [show ((0 : Nat) : Int) = 0 from rfl,List.drop_zero] at l5 l4
   rw [l5]
   cases ins.all aIP
   ·rfl
   ·simp only [Option.bind_some,if_true,aBe,l4,Bool.true_and]
    cases outs.all fun o => decide (o.Script.length ≤ 600) <;> rfl
  ·rw [decide_eq_false h2]; rfl
 ·rw [decide_eq_false h]; rfl
def aFo (o : aE) : Bool := !decide (o.Value < 0) && decide (o.Script.length ≤ 520)
def aHb (x : aF) : Bool := decide (x.Witness.length ≤ 32) && x.Witness.all fun w => decide (w.length ≤ 520)
def aA5 (v : Int) (ins : List aF) (outs : List aE) (lock : Int) : Bool :=
 decide (ins.length ≤ 64) && decide (outs.length ≤ 64) && outs.all aFo && ins.all aHb && decide ((aLj v ins outs lock true).length ≤ 20000)
theorem aKU (N : Nat) (hN : 70000 ≤ N) {v : Int} {ins : List aF} {outs : List aE} {lock : Int} (K : aCd ins outs) : aBB N v ins outs lock = some (aA5 v ins outs lock) := by
 have k1 := K.ni
 have k2 := K.no
 unfold aBB aA5
 rw [show (64 : Int) = ((64 : Nat) : Int) from rfl,nle,nle]
 by_cases h : ins.length ≤ 64
 ·rw [decide_eq_true h]
  simp only [Bool.not_true,Bool.false_eq_true,if_false,Bool.true_and,zC]
  by_cases h2 : outs.length ≤ 64
  ·rw [decide_eq_true h2]
   simp only [Bool.not_true,Bool.false_eq_true,if_false,Bool.true_and]
   have l7 := n8 (f := lX N v ins outs lock) (xs := outs) (p := aFo) (r := false) (fun m j hj => by
     rw [lX,dT hj,if_pos rfl,b9 outs hj]
     simp only [Option.bind_some,show (520 : Int) = ((520 : Nat) : Int) from rfl,nle,i1 (show j ≤ 100000 by omega),z7]
     rw [show aFo outs[j] = (!decide (outs[j].Value < 0) && decide (outs[j].Script.length ≤ 520)) from rfl]
     cases decide (outs[j].Value < 0) <;> cases decide (outs[j].Script.length ≤ 520) <;> rfl) (fun m j hj => by rw [lX,dF (by omega)]; rfl) N 0 (by omega) (by omega)
   have l6 : ∀ (x : Int) (w : aF),w.Witness.length ≤ 32 → nL N v ins outs lock x w N 0 = some (if (w.Witness.all fun w => decide (w.length ≤ 520)) = true then .brk () else .ret false) := fun x w hw => by
    have := n8 (f := nL N v ins outs lock x w) (xs := w.Witness) (p := fun w => decide (w.length ≤ 520)) (r := false) (fun m j hj => by
     rw [nL,dT hj,if_pos rfl,b9 w.Witness hj]
     simp only [Option.bind_some,show (520 : Int) = ((520 : Nat) : Int) from rfl,nle,i1 (show j ≤ 100000 by omega)]
     cases decide (w.Witness[j].length ≤ 520) <;> rfl) (fun m j hj => by rw [nL,dF (by omega)]; rfl) N 0 (by omega) (by omega)
    rw [show ((0 : Nat) : Int) = 0 from rfl,List.drop_zero] at this
    exact this
   have l4 := n8 (f := nJ N v ins outs lock) (xs := ins) (p := aHb) (r := false) (fun m j hj => by
     rw [nJ,dT hj,if_pos rfl,b9 ins hj]
     simp only [Option.bind_some,show (32 : Int) = ((32 : Nat) : Int) from rfl,nle,i1 (show j ≤ 100000 by omega)]
     rw [show aHb ins[j] = (decide (ins[j].Witness.length ≤ 32) && ins[j].Witness.all fun w => decide (w.length ≤ 520)) from rfl]
     by_cases hw : ins[j].Witness.length ≤ 32
     ·rw [decide_eq_true hw]
      simp only [Bool.not_true,Bool.false_eq_true,if_false,Bool.true_and,l6 _ _ hw,Option.bind_some,aBn]
      cases ins[j].Witness.all fun w => decide (w.length ≤ 520)
      ·rfl
      ·simp only [if_true,i1 (show j ≤ 100000 by omega)]
     ·rw [decide_eq_false hw]; rfl) (fun m j hj => by rw [nJ,dF (by omega)]; rfl) N 0 (by omega) (by omega)
   rw [show ((0 : Nat) : Int) = 0 from rfl,List.drop_zero] at l7 l4
   rw [l7]
   cases outs.all aFo
   ·rfl
   ·simp only [Option.bind_some,if_true,aBu,l4,Bool.true_and]
    cases ins.all aHb
    ·rfl
    ·simp only [Option.bind_some,if_true,aBh,aHZ N hN K,Bool.true_and]
     rw [dle]
  ·rw [decide_eq_false h2]; rfl
 ·rw [decide_eq_false h]; rfl
def tK (l : List aE) : Int := (l.map (·.Value)).sum
theorem aAw : ∀ {l : List aE},(∀ o ∈ l,0 ≤ o.Value) → 0 ≤ tK l
 | [],_ => by simp [tK]
 | o :: l,h => by
  have h1 := h o (by simp)
  have h2 := aAw (l := l) (fun x hx => h x (by simp [hx]))
  simp only [tK,List.map_cons,List.sum_cons] at h2 ⊢; omega
theorem aEe (o : aE) (l : List aE) : tK (o :: l) = o.Value + tK l := by simp [tK]
theorem aGK (N : Nat) (outs : List aE) (hn : outs.length ≤ 64) (h0 : ∀ o ∈ outs,0 ≤ o.Value) : ∀ (m j : Nat) (s : Int),outs.length - j < m → j ≤ outs.length → 0 ≤ s → s ≤ 2100000000000000 →
  qY N outs m s (j : Int) = some (if s + tK (outs.drop j) ≤ 2100000000000000 then .brk () else .ret false)
 | 0,j,s,hm,_,_,_ => by omega
 | m + 1,j,s,hm,hj,hs,hs2 => by
  rw [qY]
  by_cases h : j < outs.length
  ·have hv := h0 _ (List.getElem_mem h)
   have hnn := aAw (l := outs.drop (j + 1)) (fun x hx => h0 x (List.mem_of_mem_drop hx))
   rw [dT h,if_pos rfl,b9 outs h,Option.bind_some,List.drop_eq_getElem_cons h,aEe,cG (a := 2100000000000000 - s) (by omega) (by omega)]
   by_cases hc : 2100000000000000 - s < outs[j].Value
   ·rw [decide_eq_true hc,if_pos rfl,if_neg (by omega)]
   ·rw [decide_eq_false hc,cG (a := s + outs[j].Value) (by omega) (by omega)]
    simp only [Bool.false_eq_true,if_false,i1 (show j ≤ 100000 by omega)]
    rw [aGK N outs hn h0 m (j + 1) _ (by omega) (by omega) (by omega) (by omega),Int.add_assoc]
  ·rw [dF h,List.drop_eq_nil_of_le (by omega)]
   simp [tK,hs2]
theorem aNk (N : Nat) (hN : 70000 ≤ N) (outs : List aE) (hn : outs.length ≤ 64) (h0 : ∀ o ∈ outs,0 ≤ o.Value) : aBL N outs = some (decide (tK outs ≤ 2100000000000000)) := by
 have := aGK N outs hn h0 N 0 0 (by omega) (by omega) (by omega) (by omega)
 rw [show ((0 : Nat) : Int) = 0 from rfl,List.drop_zero,Int.zero_add] at this
 unfold aBL
 rw [this]
 by_cases h : tK outs ≤ 2100000000000000
 ·rw [if_pos h,decide_eq_true h]; rfl
 ·rw [if_neg h,decide_eq_false h]; rfl
def qd (ins : List aF) (j k : Nat) : Bool := match ins[j]?,ins[k]? with
 | some a,some b => mS a.Prev b.Prev
 | _,_ => false
def nd (ins : List aF) (j : Nat) : Bool := (List.range' 0 j).all fun k => !qd ins j k
theorem aEy {α β : Type} {eq : α → α → Bool} {g : β → α} {k : α} : ∀ (xs : List β),aB8 eq (xs.map fun x => (g x,true)) k false = xs.any fun x => eq k (g x)
 | [] => rfl
 | x :: xs => by
  have ih := aEy (eq := eq) (g := g) (k := k) xs
  simp only [aB8,zO,List.map_cons,List.findIdx?_cons,List.any_cons] at ih ⊢
  cases h : eq k (g x) with
  | true => simp
  | false =>
   simp only [Bool.false_eq_true,if_false,Bool.false_or]
   rw [← ih]
   cases List.findIdx? (fun e => eq k e.fst) (xs.map fun x => (g x,true)) <;> simp
theorem aNq {α β : Type} {eq : α → α → Bool} {g : β → α} {k : α} (xs : List β) (h : (xs.any fun x => eq k (g x)) = false) : aEm eq (xs.map fun x => (g x,true)) k true = (xs.map fun x => (g x,true)) ++ [(k,true)] := by
 have : zO eq (xs.map fun x => (g x,true)) k = none := by
  simp only [zO,List.findIdx?_eq_none_iff,List.mem_map]
  rintro e ⟨x,hx,rfl⟩
  have := List.any_eq_false.1 h x hx
  simpa using this
 simp only [aEm,this]
theorem aJE (ins : List aF) (j : Nat) (hj : j < ins.length) : ((ins.take j).any fun x => mS ins[j].Prev x.Prev) = !nd ins j := by
 unfold nd
 have : ∀ c,c ≤ j → ((ins.take c).any fun x => mS ins[j].Prev x.Prev) = !((List.range' 0 c).all fun k => !qd ins j k) := by
  intro c
  induction c with
  | zero => intro _; rfl
  | succ c ih =>
   intro hc
   rw [List.take_succ_eq_append_getElem (by omega),List.any_append,ih (by omega),List.range'_concat,List.all_append]
   have : qd ins j (0 + 1 * c) = mS ins[j].Prev ins[c].Prev := by
    simp only [qd,Nat.zero_add,Nat.one_mul,List.getElem?_eq_getElem hj,List.getElem?_eq_getElem (show c < ins.length by omega)]
   simp only [List.any_cons,List.any_nil,Bool.or_false,List.all_cons,List.all_nil,Bool.and_true,this]
   cases (List.range' 0 c).all fun k => !qd ins j k <;> cases mS ins[j].Prev ins[c].Prev <;> rfl
 exact this j (Nat.le_refl _)
theorem aJn (N : Nat) (v : Int) (ins : List aF) (outs : List aE) (lock : Int) (hn : ins.length ≤ 100) : ∀ (m j : Nat),ins.length - j < m → j ≤ ins.length →
  qQ N v ins outs lock m (j : Int) ((ins.take j).map fun x => (x.Prev,true)) = some (if (List.range' j (ins.length - j)).all (nd ins) = true then .brk (ins.map fun x => (x.Prev,true)) else .ret 91)
 | 0,j,hm,_ => by omega
 | m + 1,j,hm,hj => by
  rw [qQ]
  by_cases h : j < ins.length
  ·rw [dT h,if_pos rfl,b9 ins h,Option.bind_some,aEy (g := fun x : aF => x.Prev),aJE ins j h,show ins.length - j = (ins.length - (j + 1)) + 1 by omega,List.range'_succ,List.all_cons]
   cases hd : nd ins j with
   | false => rfl
   | true =>
    simp only [Bool.not_true,Bool.false_eq_true,if_false,Bool.true_and,i1 (show j ≤ 100000 by omega)]
    rw [aNq (g := fun x : aF => x.Prev) _ (by rw [aJE ins j h,hd]; rfl)]
    have e : ((ins.take j).map fun x => (x.Prev,true)) ++ [(ins[j].Prev,true)] = (ins.take (j + 1)).map fun x => (x.Prev,true) := by
     rw [List.take_succ_eq_append_getElem h,List.map_append]; rfl
    rw [e]
    exact aJn N v ins outs lock hn m (j + 1) (by omega) (by omega)
  ·have : j = ins.length := by omega
   subst this
   rw [dF h,Nat.sub_self,List.take_of_length_le (Nat.le_refl _)]; rfl
def aAH (o : aQ) : Bool := o8 o.Tx (List.replicate 32 0) ((o.Index == 4294967295) && true)
theorem aJe {o : aQ} (h : o.Tx.length = 32) : mS (aQ.mk (List.replicate 32 0) 4294967295) o = aAH o := by
 unfold mS aAH
 simp only
 rw [xK (by simp) h,xK h (by simp)]
 congr 1
 ·rw [Bool.eq_iff_iff]; simp only [beq_iff_eq]; exact eq_comm
 ·congr 1
  rw [Bool.eq_iff_iff]; simp only [beq_iff_eq]; exact eq_comm
def cbB (ins : List aF) : Bool := match ins with
 | [x] => aAH x.Prev
 | _ => false
theorem aFi (N : Nat) (v : Int) (ins : List aF) (outs : List aE) (lock : Int) : tE N v ins outs lock = some (cbB ins) := by
 unfold tE cbB
 match ins with
 | [] => rfl
 | [x] => rfl
 | x :: y :: l =>
  have e : (((x :: y :: l).length : Int) == 1) = false := by
   simp only [List.length_cons,beq_eq_false_iff_ne]; omega
  rw [e]
  rfl
def chk (v : Int) (ins : List aF) (outs : List aE) (lock : Int) : Int :=
 if aA5 v ins outs lock = false then 4 else if (ins.length == 0 || outs.length == 0) = true then 93 else if ¬ tK outs ≤ 2100000000000000 then 90 else if (List.range' 0 ins.length).all (nd ins) = false then 91
 else if ((ins.any fun x => aAH x.Prev) && !cbB ins) = true then 92 else 0
theorem aS7 {α : Type} (l : List α) : ((l.length : Int) == 0) = (l.length == 0) := by
 rw [Bool.eq_iff_iff]; simp
theorem aLe {v : Int} {ins : List aF} {outs : List aE} {lock : Int} (h : aA5 v ins outs lock = true) : ins.length ≤ 64 ∧ outs.length ≤ 64 ∧ ∀ o ∈ outs,0 ≤ o.Value := by
 simp only [aA5,Bool.and_eq_true,decide_eq_true_eq,List.all_eq_true] at h
 refine ⟨h.1.1.1.1,h.1.1.1.2,fun o ho => ?_⟩
 have := h.1.1.2 o ho
 simp only [aFo,Bool.and_eq_true,Bool.not_eq_true',decide_eq_false_iff_not] at this
 omega
theorem aOa (N : Nat) (hN : 70000 ≤ N) {v : Int} {ins : List aF} {outs : List aE} {lock : Int} (K : aCd ins outs) : aBT N v ins outs lock = some (chk v ins outs lock) := by
 unfold aBT chk
 rw [aKU N hN K]
 cases hf : aA5 v ins outs lock with
 | false => rfl
 | true =>
  obtain ⟨n1,n2,h0⟩ := aLe hf
  simp only [Option.bind_some,Bool.not_true,Bool.false_eq_true,if_false,aS7,wB,Bool.true_eq_false]
  cases hi : ins.length == 0 with
  | true => rfl
  | false =>
   cases ho : outs.length == 0 with
   | true => rfl
   | false =>
    simp only [Bool.false_eq_true,if_false,Bool.or_self,aNk N hN outs n2 h0,Option.bind_some]
    by_cases hm : tK outs ≤ 2100000000000000
    ·simp only [hm,decide_true,Bool.not_true,Bool.false_eq_true,if_false,not_true_eq_false]
     have := aJn N v ins outs lock (by omega) N 0 (by omega) (by omega)
     simp only [List.take_zero,List.map_nil,Nat.sub_zero] at this
     rw [show ((0 : Nat) : Int) = 0 from rfl] at this
     rw [this]
     cases hd : (List.range' 0 ins.length).all (nd ins) with
     | false => rfl
     | true =>
      simp only [if_true,Option.bind_some,aAx,aEy (g := fun x : aF => x.Prev),aFi N v ins outs lock,Bool.true_eq_false,if_false]
      have e : (ins.any fun x => mS (aQ.mk (List.replicate 32 0) 4294967295) x.Prev) = ins.any fun x => aAH x.Prev := by
       rw [Bool.eq_iff_iff]
       simp only [List.any_eq_true]
       constructor
       ·rintro ⟨x,hx,h⟩; exact ⟨x,hx,by rw [← aJe (K.tx x hx)]; exact h⟩
       ·rintro ⟨x,hx,h⟩; exact ⟨x,hx,by rw [aJe (K.tx x hx)]; exact h⟩
      rw [e]
      cases (ins.any fun x => aAH x.Prev) <;> cases cbB ins <;> rfl
    ·simp only [hm,decide_false,Bool.not_false,if_true,not_false_eq_true]
def rS (l : List aT) : Int := (l.map (·.Output.Value)).sum
theorem aH3 (c : aT) (l : List aT) : rS (c :: l) = c.Output.Value + rS l := by simp [rS]
def nnC (c : aT) : Bool := !decide (c.Output.Value < 0)
theorem aFj : ∀ {l : List aT},l.all nnC = true → 0 ≤ rS l
 | [],_ => by simp [rS]
 | c :: l,h => by
  rw [List.all_cons,Bool.and_eq_true] at h
  have h2 := aFj h.2
  have h1 := h.1
  simp only [nnC,Bool.not_eq_true',decide_eq_false_iff_not] at h1
  rw [aH3]; omega
theorem aMF (N : Nat) (l : List aT) (hn : l.length ≤ 70) (m : Nat) : ∀ (j : Nat) (s : Int),l.length - j < m → j ≤ l.length → 0 ≤ s → s ≤ 2100000000000000 →
  kN N l m s (j : Int) = some (if (l.drop j).all nnC = true ∧ s + rS (l.drop j) ≤ 2100000000000000 then .brk (s + rS (l.drop j)) else .ret (0,false)) := by
 induction m with
 | zero => intro j s hm _ _ _; omega
 | succ m ih =>
  intro j s hm hj hs hs2
  rw [kN]
  by_cases h : j < l.length
  ·rw [dT h,if_pos rfl,b9 l h,Option.bind_some,List.drop_eq_getElem_cons h,aH3,List.all_cons]
   simp only [uQ]
   by_cases hv : l[j].Output.Value < 0
   ·have e : nnC l[j] = false := by simp [nnC,hv]
    simp only [e,decide_eq_true hv,if_true,Bool.false_and,Bool.false_eq_true,false_and,if_false]
   ·have e : nnC l[j] = true := by simp [nnC,hv]
    rw [decide_eq_false hv,e,cG (a := 2100000000000000 - s) (by omega) (by omega)]
    simp only [Bool.false_eq_true,if_false,Bool.true_and]
    by_cases hc : 2100000000000000 - s < l[j].Output.Value
    ·rw [decide_eq_true hc,if_pos rfl]
     rw [if_neg (fun hh => by have := aFj hh.1; omega)]
    ·rw [decide_eq_false hc,cG (a := s + l[j].Output.Value) (by omega) (by omega)]
     simp only [Bool.false_eq_true,if_false,i1 (show j ≤ 100000 by omega)]
     rw [ih (j + 1) _ (by omega) (by omega) (by omega) (by omega),Int.add_assoc]
  ·rw [dF h,List.drop_eq_nil_of_le (by omega)]
   simp [rS,hs2]
def mtc (l : List aT) (ins : List aF) (k : Nat) : Bool := match l[k]?,ins[k]? with
 | some c,some x => o8 c.Out.Tx x.Prev.Tx ((c.Out.Index == x.Prev.Index) && true)
 | _,_ => false
theorem aQ0 {l : List aT} {ins : List aF} {k : Nat} (h : k < l.length) (h2 : k < ins.length) : mtc l ins k = o8 l[k].Out.Tx ins[k].Prev.Tx ((l[k].Out.Index == ins[k].Prev.Index) && true) := by
 simp only [mtc,List.getElem?_eq_getElem h,List.getElem?_eq_getElem h2]
def wY (v : Int) (ins : List aF) (outs : List aE) (lock : Int) (l : List aT) : Int × Int :=
 if chk v ins outs lock ≠ 0 then (0,chk v ins outs lock) else if l.length ≠ ins.length then (0,8) else if (List.range' 0 l.length).all (mtc l ins) = false then (0,101)
 else if ¬ (l.all nnC = true ∧ rS l ≤ 2100000000000000) then (0,90)
 else if outs.foldl (fun s o => IntKind.i64.wrap (s - o.Value)) (rS l) < 0 then (0,100) else (outs.foldl (fun s o => IntKind.i64.wrap (s - o.Value)) (rS l),0)
theorem aSk {α β : Type} (l : List α) (k : List β) : ((l.length : Int) != (k.length : Int)) = decide (l.length ≠ k.length) := by
 by_cases h : l.length = k.length
 ·rw [h]; simp
 ·rw [decide_eq_true h]; simp; omega
section
variable (N : Nat) (hN : 70000 ≤ N) {v : Int} {ins : List aF} {outs : List aE} {lock : Int} (K : aCd ins outs) {l : List aT} (hl : l.length ≤ 70)
include hN K hl
theorem aQ5 : uD N v ins outs lock l = some (wY v ins outs lock l) := by
 have k1 := K.ni
 have k2 := K.no
 unfold uD wY
 rw [aOa N hN K,Option.bind_some,aSk]
 by_cases hc : chk v ins outs lock = 0
 ·simp only [hc,bne_self_eq_false,Bool.false_eq_true,if_false,ne_eq,not_true_eq_false]
  by_cases hn : l.length = ins.length
  ·simp only [hn,not_true_eq_false,decide_false,Bool.false_eq_true,if_false]
   have := aH1 (f := mE N v ins outs lock l) (n := l.length) (p := mtc l ins) (r := (0,101)) (fun m k hk => by
     have hk' : k < ins.length := by omega
     rw [mE,dT hk,if_pos rfl,b9 l hk,b9 ins hk',aQ0 hk hk']
     simp only [Option.bind_some,i1 (show k ≤ 100000 by omega)]
     cases o8 l[k].Out.Tx ins[k].Prev.Tx ((l[k].Out.Index == ins[k].Prev.Index) && true) <;> rfl) (fun m k hk => by rw [mE,dF (by omega)]; rfl) N 0 (by omega) (by omega)
   rw [show ((0 : Nat) : Int) = 0 from rfl,Nat.sub_zero] at this
   rw [this,hn]
   cases (List.range' 0 ins.length).all (mtc l ins) with
   | false => rfl
   | true =>
    have hs := aMF N l hl N 0 0 (by omega) (by omega) (by omega) (by omega)
    rw [show ((0 : Nat) : Int) = 0 from rfl,List.drop_zero,Int.zero_add] at hs
    simp only [if_true,Option.bind_some,yC,aCr,hs,Bool.true_eq_false,if_false]
    by_cases hz : l.all nnC = true ∧ rS l ≤ 2100000000000000
    ·rw [if_pos hz,if_neg (fun h => h hz)]
     have hf := aIp (f := mH N outs) (xs := outs) (g := fun s o => IntKind.i64.wrap (s - o.Value)) (fun m s j hj => by
       rw [mH,dT hj,if_pos rfl,b9 outs hj]
       simp only [Option.bind_some,i1 (show j ≤ 100000 by omega)]) (fun m s j hj => by rw [mH,dF (by omega)]; rfl) N (rS l) 0 (by omega) (by omega)
     rw [show ((0 : Nat) : Int) = 0 from rfl,List.drop_zero] at hf
     simp only [yM,Option.bind_some,Bool.not_true,Bool.false_eq_true,if_false,hf,yA]
     by_cases hx : outs.foldl (fun s o => IntKind.i64.wrap (s - o.Value)) (rS l) < 0
     ·rw [decide_eq_true hx,if_pos rfl,if_pos hx]
     ·rw [decide_eq_false hx,if_neg hx]; rfl
    ·rw [if_neg hz,if_pos hz]; rfl
  ·simp only [hn,not_false_eq_true,decide_true,if_true]
 ·have : (chk v ins outs lock != 0) = true := by simpa using hc
  simp only [this,hc,if_true,ne_eq,not_false_eq_true]
end
theorem sF (w : Nat) (v : Int) : Byt (yP w v) := by
 intro x hx
 simp only [yP,List.mem_map] at hx
 obtain ⟨i,_,rfl⟩ := hx
 exact aEr _
theorem aPl (n : Nat) : Byt (szB n) := by
 unfold szB
 split
 ·exact sF _ _
 ·split
  ·intro x hx
   rcases List.mem_cons.1 hx with rfl | hx
   ·omega
   ·exact sF _ _ x hx
  ·intro x hx
   rcases List.mem_cons.1 hx with rfl | hx
   ·omega
   ·exact sF _ _ x hx
theorem aFI {α : Type} {g : α → List Int} {l : List α} (h : ∀ x ∈ l,Byt (g x)) : Byt (l.flatMap g) := by
 intro y hy
 obtain ⟨x,hx,hy⟩ := List.mem_flatMap.1 hy
 exact h x hx y hy
def ptB (x : aF) : List Int := x.Prev.Tx ++ uE x.Prev.Index
def sqB (x : aF) : List Int := uE x.Sequence
structure aLY (ins : List aF) (outs : List aE) : Prop where
 tx : ∀ x ∈ ins,Byt x.Prev.Tx
 scr : ∀ o ∈ outs,Byt o.Script
theorem aJz {o : aE} (h : Byt o.Script) : Byt (r3 o) := (sF _ _).append ((aPl _).append h)
section
variable (N : Nat) (hN : 70000 ≤ N)
include hN
theorem aH7 (v : Int) : mL N v = some (uE v) := by
 simp only [mL,aHA N hN [] v (by simp),Option.bind_some,List.nil_append]
theorem aRk (l : List (List Int)) (hn : l.length ≤ 1000) (ht : l.flatten.length ≤ 50000000) : uF N l = some l.flatten := by
 have := aBK (f := mK N l) l hn ht (fun m j acc hj hB => by
  rw [mK,dT hj,if_pos rfl,b9 l hj,Option.bind_some,j7 (by omega)]
  simp only [Option.bind_some,i1 (show j ≤ 100000 by omega)]) (fun m j acc hj => by rw [mK,dF (by omega)]; rfl) N hN
 unfold uF
 rw [this]; rfl
theorem aHN (o : aE) (h : o.Script.length ≤ 600) : rR N o.Value o.Script = some (r3 o) := by
 have := nX o.Script.length
 simp only [rR,aQY N hN [] _ (show ([] : List Int).length ≤ 40000000 by simp),aJx N hN [] _ (show o.Script.length ≤ 1000000 by omega) (by simp),Option.bind_some,List.nil_append]
 rw [aRk N hN _ (by simp) (by simp [aDg]; omega)]
 simp only [Option.bind_some,List.flatten_cons,List.flatten_nil,List.append_nil,r3]
theorem aEn (b : List Int) (hb : Byt b) (hl : b.length ≤ 1000000) : oR N b = some (sha256 N b) := by
 simp only [oR,aGp N hN b hb hl,Option.bind_some,cR (mC N b)]
variable {v : Int} {ins : List aF} {outs : List aE} {lock : Int} (K : aCd ins outs)
include K
theorem aOs : z8 N v ins outs lock = some (aA5 v ins outs lock) := by
 simp only [z8,aCk,aKU N hN K,Option.bind_some]
 cases aA5 v ins outs lock
 ·rfl
 ·simp only [Bool.not_true,Bool.false_eq_true,if_false,aHZ N hN K,Option.bind_some]; rfl
variable {i oV : Int} {oS : List Int}
theorem mL6 : ∀ (m j : Nat) (a b : List Int),ins.length - j < m → j ≤ ins.length → a.length ≤ 36 * j → b.length ≤ 4 * j → jJ N v ins outs lock i oV oS m (j : Int) a b = some (a ++ (ins.drop j).flatMap ptB,b ++ (ins.drop j).flatMap sqB)
 | 0,j,a,b,hm,_,_,_ => by omega
 | m + 1,j,a,b,hm,hj,ha,hb => by
  have hn := K.ni
  rw [jJ]
  by_cases h : j < ins.length
  ·have ht := K.tx _ (List.getElem_mem h)
   rw [dT h,if_pos rfl,b9 ins h]
   simp only [Option.bind_some,aMH N hN _ _ ht,aH7 N hN]
   rw [j7 (by simp only [List.length_append,gG]; omega)]
   simp only [Option.bind_some]
   rw [j7 (by rw [gG]; omega)]
   simp only [Option.bind_some,i1 (show j ≤ 100000 by omega)]
   rw [mL6 m (j + 1) _ _ (by omega) (by omega) (by simp only [List.length_append,gG]; omega) (by simp only [List.length_append,gG]; omega),List.drop_eq_getElem_cons h,List.flatMap_cons,List.flatMap_cons]
   simp only [ptB,sqB,List.append_assoc]
  ·rw [dF h,List.drop_eq_nil_of_le (by omega)]; simp
theorem mL5 (p q : List Int) : fV N v ins outs lock i oV oS p q N 0 [] = some (outs.flatMap r3) := by
 have hn := K.no
 have hl := aDq K
 have := uJ (f := fV N v ins outs lock i oV oS p q) (xs := outs) (g := r3) (B := 200000) (by omega) (fun m j acc hj hB => by
  have ht := K.scr _ (List.getElem_mem hj)
  rw [fV,dT hj,if_pos rfl,b9 outs hj]
  simp only [Option.bind_some,aHN N hN _ ht]
  rw [j7 (by omega)]
  simp only [Option.bind_some,i1 (show j ≤ 100000 by omega)]) (fun m j acc hj => by rw [fV,dF (by omega)]; rfl) N 0 [] (by omega) (by omega) (by rw [List.drop_zero,List.length_nil]; omega)
 simpa using this
def aA3 (N : Nat) (v : Int) (ins : List aF) (outs : List aE) (lock i oV : Int) (oS : List Int) : List Int :=
 uE v ++ (sha256 N (ins.flatMap ptB) ++ (sha256 N (ins.flatMap sqB) ++ (sha256 N (outs.flatMap r3) ++ (uE lock ++ (uE (IntKind.u32.wrap i) ++ r3 ⟨oV,oS⟩)))))
def aG7 : ByteArray := ⟨#[108,105,103,104,116,99,108,105,101,110,116,47,115,112,101,110,100]⟩
def aGL : List Int := [0,0,0,0,0,0,0,0,0,0,0,0,0,0,0,0,0,0,0,0,0,0,0,0,0,0,0,0,0,0,0,0]
def yX (N : Nat) (v : Int) (ins : List aF) (outs : List aE) (lock i oV : Int) (oS : List Int) : List Int × Int :=
 if aA5 v ins outs lock && !decide (oV < 0) && !decide (520 < oS.length) then
  if decide (i < 0) || decide ((ins.length : Int) ≤ i) then (aGL,5) else (vX N aG7 (aA3 N v ins outs lock i oV oS),0)
 else (aGL,4)
omit hN K in
theorem aNI : (yX N v ins outs lock i oV oS).1.length = 32 := by
 unfold yX
 split
 ·split
  ·rfl
  ·exact kP _ _ _
 ·rfl
variable (B : aLY ins outs)
include B
omit hN in
theorem aNP : Byt (ins.flatMap ptB) ∧ (ins.flatMap ptB).length ≤ 2520 ∧ Byt (ins.flatMap sqB) ∧ (ins.flatMap sqB).length ≤ 280 ∧ Byt (outs.flatMap r3) ∧ (outs.flatMap r3).length ≤ 42910 := by
 have h1 := pL (g := ptB) (c := 36) ins (fun x hx => by simp [ptB,gG,K.tx x hx])
 have h2 := pL (g := sqB) (c := 4) ins (fun x hx => by simp [sqB,gG])
 have hn := K.ni
 have := Nat.mul_le_mul_right 36 hn
 have := Nat.mul_le_mul_right 4 hn
 exact ⟨aFI fun x hx => (B.tx x hx).append (sF _ _),by omega,aFI fun x hx => sF _ _,by omega,aFI fun o ho => aJz (B.scr o ho),aDq K⟩
theorem aO9 (hoS : oS.length ≤ 520) (hob : Byt oS) : Byt (aA3 N v ins outs lock i oV oS) ∧ (aA3 N v ins outs lock i oV oS).length ≤ 900000 := by
 have h2 := aE5 (o := ⟨oV,oS⟩) (show oS.length ≤ 600 by omega)
 refine ⟨(sF _ _).append ((nP _ _).append ((nP _ _).append ((nP _ _).append ((sF _ _).append ((sF _ _).append (aJz hob)))))), ?_⟩
 simp only [aA3,List.length_append,gG,mC]
 omega
theorem aBl (hob : Byt oS) : k9 N v ins outs lock i oV oS = some (yX N v ins outs lock i oV oS) := by
 obtain ⟨p1,p2,p3,p4,p5,p6⟩ := aNP K B
 unfold k9 yX
 rw [aOs N hN K]
 cases hf : aA5 v ins outs lock with
 | false => rfl
 | true =>
  simp only [Option.bind_some,Bool.not_true,Bool.false_eq_true,if_false,Bool.true_and]
  cases h0 : decide (oV < 0) with
  | true => rfl
  | false =>
   simp only [Bool.false_eq_true,if_false,Bool.not_false,Bool.true_and]
   rw [show (520 : Int) = ((520 : Nat) : Int) from rfl,nle,show decide (520 < oS.length) = !decide (oS.length ≤ 520) by rw [← nle]; congr 1; simp; omega]
   cases h1 : decide (oS.length ≤ 520) with
   | false => rfl
   | true =>
    have hoS : oS.length ≤ 520 := by simpa using h1
    obtain ⟨q1,q2⟩ := aO9 N hN K B (v := v) (lock := lock) (i := i) (oV := oV) hoS hob
    simp only [Bool.not_true,Bool.not_false,if_true,lK,Bool.false_eq_true,if_false]
    have main : lG N v ins outs lock i oV oS false = some (vX N aG7 (aA3 N v ins outs lock i oV oS),0) := by
     have e6 := mL6 N hN K (v := v) (lock := lock) (i := i) (oV := oV) (oS := oS) N 0 [] [] (by have := K.ni; omega) (by omega) (by simp) (by simp)
     rw [show ((0 : Nat) : Int) = 0 from rfl,List.drop_zero,List.nil_append,List.nil_append] at e6
     have e7 : uF N [uE v,sha256 N (ins.flatMap ptB),sha256 N (ins.flatMap sqB),sha256 N (outs.flatMap r3),uE lock,uE (IntKind.u32.wrap i),r3 ⟨oV,oS⟩] = some (aA3 N v ins outs lock i oV oS) := by
      have h2 := aE5 (o := ⟨oV,oS⟩) (show oS.length ≤ 600 by omega)
      rw [aRk N hN _ (by simp) (by simp [gG,mC]; omega)]
      simp only [List.flatten_cons,List.flatten_nil,List.append_nil,aA3]
     have e8 := aEg N hN aG7 (by decide) _ q1 q2
     simp only [lG,Bool.false_eq_true,if_false,e6,Option.bind_some,sR,mL5 N hN K,sQ,aH7 N hN,aEn N hN _ p1 (by omega),aEn N hN _ p3 (by omega),aEn N hN _ p5 (by omega),aHN N hN ⟨oV,oS⟩ (show oS.length ≤ 600 by omega),e7]
     rw [show (⟨#[108,105,103,104,116,99,108,105,101,110,116,47,115,112,101,110,100]⟩ : ByteArray) = aG7 from rfl,e8]
     simp only [Option.bind_some,cR (kP N _ _)]
    cases hi : decide (i < 0) with
    | true => rfl
    | false =>
     simp only [Bool.false_eq_true,if_false,Bool.false_or]
     cases hi2 : decide ((ins.length : Int) ≤ i) with
     | true => rfl
     | false => simp only [Bool.false_eq_true,if_false,main]
end
def aBX (N : Nat) (v : Int) (ins : List aF) (outs : List aE) (lock h : Int) (i : Nat) (c : aT) (x : aF) : Int :=
 if (yX N v ins outs lock i c.Output.Value c.Output.Script).2 ≠ 0 then (yX N v ins outs lock i c.Output.Value c.Output.Script).2 else
 if o8 x.Prev.Tx c.Out.Tx ((x.Prev.Index == c.Out.Index) && true) = false then 101 else
 if c.Height < 0 ∨ h < c.Height ∨ 16777216 < h then 102 else
 aFL (r5 N c.Output.Script x.Witness (yX N v ins outs lock i c.Output.Value c.Output.Script).1 h (h - c.Height))
def zP (N : Nat) (v : Int) (ins : List aF) (outs : List aE) (lock : Int) (l : List aT) (h : Int) (i : Nat) : Int := match l[i]?,ins[i]? with
 | some c,some x => aBX N v ins outs lock h i c x
 | _,_ => 0
def pR (f : Nat → Int) : Nat → Nat → Int
 | _,0 => 0
 | j,k + 1 => if f j ≠ 0 then f j else pR f (j + 1) k
theorem aCJ {f : Nat → Int} : ∀ {k j : Nat},pR f j k = 0 ↔ ∀ i,j ≤ i → i < j + k → f i = 0
 | 0,j => ⟨fun _ i h1 h2 => by omega,fun _ => rfl⟩
 | k + 1,j => by
  rw [pR]
  constructor
  ·intro h i h1 h2
   by_cases g : f j = 0
   ·rw [if_neg (fun n => n g)] at h
    by_cases e : i = j
    ·rw [e]; exact g
    ·exact aCJ.1 h i (by omega) (by omega)
   ·rw [if_pos g] at h; exact absurd h g
  ·intro h
   rw [if_neg (fun n => n (h j (by omega) (by omega)))]
   exact aCJ.2 fun i h1 h2 => h i (by omega) (by omega)
theorem aOx (N : Nat) (v : Int) (ins : List aF) (outs : List aE) (lock i oV : Int) (oS : List Int) : Byt (yX N v ins outs lock i oV oS).1 := by
 have hz : Byt aGL := by intro x hx; simp [aGL] at hx; omega
 unfold yX
 split
 ·split
  ·exact hz
  ·exact nM _ _ _
 ·exact hz
section
variable (N : Nat) (hN : 70000 ≤ N) {v : Int} {ins : List aF} {outs : List aE} {lock : Int} (K : aCd ins outs) (B : aLY ins outs) (W : ∀ x ∈ ins,∀ w ∈ x.Witness,Byt w)
include hN K B W
theorem aNf {h : Int} (hh : 0 ≤ h ∧ h ≤ 17000000) {i : Nat} (hi : i < ins.length) {c : aT} (hc : Byt c.Output.Script) :
  wO N v ins outs lock (i : Int) c.Out.Tx c.Out.Index c.Output.Value c.Output.Script c.Height c.Coinbase h = some (aBX N v ins outs lock h i c ins[i]) := by
 have hl := aNI N (v := v) (ins := ins) (outs := outs) (lock := lock) (i := (i : Int)) (oV := c.Output.Value) (oS := c.Output.Script)
 have hb := aOx N v ins outs lock (i : Int) c.Output.Value c.Output.Script
 unfold wO aBX
 rw [aBl N hN K B hc]
 simp only [Option.bind_some,cR hl]
 generalize yX N v ins outs lock (i : Int) c.Output.Value c.Output.Script = M at hl hb ⊢
 by_cases h0 : M.2 = 0
 ·rw [if_neg (show ¬ M.2 ≠ 0 from fun n => n h0),show (M.2 != 0) = false by simpa using h0]
  simp only [Bool.false_eq_true,if_false,b9 ins hi,Option.bind_some]
  cases ha : o8 ins[i].Prev.Tx c.Out.Tx ((ins[i].Prev.Index == c.Out.Index) && true) with
  | false => rfl
  | true =>
   simp only [Bool.not_true,Bool.false_eq_true,if_false,Bool.true_eq_false]
   by_cases h1 : c.Height < 0
   ·rw [decide_eq_true h1,if_pos rfl,if_pos (show c.Height < 0 ∨ h < c.Height ∨ 16777216 < h from .inl h1)]; rfl
   ·rw [decide_eq_false h1]
    by_cases h2 : h < c.Height
    ·simp only [Bool.false_eq_true,if_false]; rw [decide_eq_true h2,if_pos rfl,if_pos (show c.Height < 0 ∨ h < c.Height ∨ 16777216 < h from .inr (.inl h2))]; rfl
    ·rw [decide_eq_false h2]
     by_cases h3 : 16777216 < h
     ·simp only [Bool.false_eq_true,if_false]; rw [decide_eq_true h3,if_pos (show c.Height < 0 ∨ h < c.Height ∨ 16777216 < h from .inr (.inr h3))]; rfl
     ·rw [decide_eq_false h3,if_neg (show ¬ (c.Height < 0 ∨ h < c.Height ∨ 16777216 < h) by omega)]
      simp only [Bool.false_eq_true,if_false,nY,b9 ins hi,Option.bind_some]
      rw [cG (a := h - c.Height) (by omega) (by omega),aRA hN hl hb hc (W _ (List.getElem_mem hi))]
      rfl
 ·rw [if_pos h0,show (M.2 != 0) = true by simpa using h0]; rfl
theorem aGu {l : List aT} (hl : l.length ≤ 70) (hln : l.length = ins.length) (hc : ∀ c ∈ l,Byt c.Output.Script) {h : Int} (hh : 0 ≤ h ∧ h ≤ 17000000) (x : Int × Int) : ∀ (m j : Nat),l.length - j < m → j ≤ l.length →
  lI N v ins outs lock l h x m (j : Int) = some (if pR (zP N v ins outs lock l h) j (l.length - j) = 0 then .brk () else .ret (0,pR (zP N v ins outs lock l h) j (l.length - j)))
 | 0,j,h1,_ => by omega
 | m + 1,j,h1,h2 => by
  rw [lI]
  by_cases hj : j < l.length
  ·have hi : j < ins.length := by omega
   rw [dT hj,if_pos rfl,b9 l hj]
   simp only [Option.bind_some]
   rw [aNf N hN K B W hh hi (hc _ (List.getElem_mem hj)),show l.length - j = (l.length - (j + 1)) + 1 by omega,pR]
   have e : zP N v ins outs lock l h j = aBX N v ins outs lock h j l[j] ins[j] := by simp only [zP,List.getElem?_eq_getElem hj,List.getElem?_eq_getElem hi]
   rw [e]
   simp only [Option.bind_some,i1 (show j ≤ 100000 by omega)]
   by_cases h0 : aBX N v ins outs lock h j l[j] ins[j] = 0
   ·rw [if_neg (show ¬ aBX N v ins outs lock h j l[j] ins[j] ≠ 0 from fun n => n h0),show (aBX N v ins outs lock h j l[j] ins[j] != 0) = false by simpa using h0]
    simp only [Bool.false_eq_true,if_false]
    exact aGu hl hln hc hh x m (j + 1) (by omega) (by omega)
   ·rw [if_pos (show aBX N v ins outs lock h j l[j] ins[j] ≠ 0 from h0),if_neg h0,show (aBX N v ins outs lock h j l[j] ins[j] != 0) = true by simpa using h0]; rfl
  ·rw [dF (by omega),show l.length - j = 0 by omega]; rfl
end
theorem aOz (N : Nat) (hN : 70000 ≤ N) (v : Int) (ins : List aF) (outs : List aE) (lock h : Int) (hn : ins.length ≤ 1000) : aCb N v ins outs lock h = some (decide (IntKind.i64.wrap lock ≤ h) || ins.all fun x => !(x.Sequence != 4294967295)) := by
 unfold aCb
 cases decide (IntKind.i64.wrap lock ≤ h) with
 | true => rfl
 | false =>
  have := n8 (f := nT N ins) (xs := ins) (p := fun x => !(x.Sequence != 4294967295)) (r := false) (fun m j hj => by
   rw [nT,dT hj,if_pos rfl,b9 ins hj]
   simp only [Option.bind_some,i1 (show j ≤ 100000 by omega)]
   cases ins[j].Sequence != 4294967295 <;> rfl) (fun m j hj => by rw [nT,dF (by omega)]; rfl) N 0 (by omega) (by omega)
  rw [show ((0 : Nat) : Int) = 0 from rfl,List.drop_zero] at this
  rw [this]
  cases ins.all fun x => !(x.Sequence != 4294967295) <;> rfl
def aGr (N : Nat) (v : Int) (ins : List aF) (outs : List aE) (lock : Int) (l : List aT) (h : Int) : Int × Int :=
 if cbB ins = true then (0,92) else if (wY v ins outs lock l).2 ≠ 0 then (0,(wY v ins outs lock l).2) else
 if (decide (IntKind.i64.wrap lock ≤ h) || ins.all fun x => !(x.Sequence != 4294967295)) = false then (0,85) else
 if pR (zP N v ins outs lock l h) 0 l.length = 0 then ((wY v ins outs lock l).1,0) else (0,pR (zP N v ins outs lock l h) 0 l.length)
theorem aPT {v : Int} {ins : List aF} {outs : List aE} {lock : Int} {l : List aT} (h : (wY v ins outs lock l).2 = 0) : l.length = ins.length := by
 unfold wY at h
 by_cases hc : chk v ins outs lock ≠ 0
 ·rw [if_pos hc] at h; exact absurd h hc
 ·rw [if_neg hc] at h
  by_cases hn : l.length ≠ ins.length
  ·rw [if_pos hn] at h; cases h
  ·simpa using hn
section
variable (N : Nat) (hN : 70000 ≤ N) {v : Int} {ins : List aF} {outs : List aE} {lock : Int} (K : aCd ins outs) (B : aLY ins outs) (W : ∀ x ∈ ins,∀ w ∈ x.Witness,Byt w)
include hN K B W
theorem aJi {l : List aT} (hl : l.length ≤ 70) (hc : ∀ c ∈ l,Byt c.Output.Script) {h : Int} (hh : 0 ≤ h ∧ h ≤ 17000000) : lW N v ins outs lock l h = some (aGr N v ins outs lock l h) := by
 unfold lW aGr
 rw [aFi,Option.bind_some]
 cases cbB ins with
 | true => rfl
 | false =>
  rw [aQ5 N hN K hl]
  simp only [Bool.false_eq_true,if_false,Option.bind_some]
  by_cases h0 : (wY v ins outs lock l).2 = 0
  ·have hln := aPT h0
   rw [if_neg (show ¬ (wY v ins outs lock l).2 ≠ 0 from fun n => n h0),show ((wY v ins outs lock l).2 != 0) = false by simpa using h0,aOz N hN _ _ _ _ _ (by omega)]
   simp only [Bool.false_eq_true,if_false,Option.bind_some]
   cases (decide (IntKind.i64.wrap lock ≤ h) || ins.all fun x => !(x.Sequence != 4294967295)) with
   | false => rfl
   | true =>
    have e := aGu N hN K B W (v := v) (lock := lock) hl hln hc hh (wY v ins outs lock l) N 0 (by omega) (by omega)
    rw [show ((0 : Nat) : Int) = 0 from rfl,Nat.sub_zero] at e
    simp only [Bool.not_true,Bool.false_eq_true,if_false,Bool.true_eq_false,e,Option.bind_some]
    by_cases hE : pR (zP N v ins outs lock l h) 0 l.length = 0
    ·rw [if_pos hE,if_pos hE]; rfl
    ·rw [if_neg hE,if_neg hE]
  ·rw [if_pos h0,show ((wY v ins outs lock l).2 != 0) = true by simpa using h0]; rfl
end
def oP (i s : Nat) : aQ := ⟨[(i : Int),(s : Int),0,0,0,0,0,0,0,0,0,0,0,0,0,0,0,0,0,0,0,0,0,0,0,0,0,0,0,0,0,0],(s : Int)⟩
def inp (i s : Nat) (w : List (List Int)) : aF := ⟨oP i s,(s : Int),w⟩
def kx (s : Nat) : Nat := aI6 + (s + 1) % 256
def kp (s : Nat) : Nat := 4 ^ kx s % gP
def scr (s : Nat) : List Int := zS (bT (kp s)) ++ [10]
def lS (i s : Nat) (v : Int) : aT := ⟨oP i s,⟨v,scr s⟩,1,false⟩
def cL (n : Nat) (S : Nat → Nat) (w : Nat → List (List Int)) : List aF := (List.range n).map fun i => inp i (S i) (w i)
def dM (n : Nat) (S : Nat → Nat) (V : Nat → Int) : List aT := (List.range n).map fun i => lS i (S i) (V i)
theorem nB (n : Nat) (S : Nat → Nat) (w : Nat → List (List Int)) : (cL n S w).length = n := by simp [cL]
theorem qJ (n : Nat) (S : Nat → Nat) (V : Nat → Int) : (dM n S V).length = n := by simp [dM]
theorem xI {n : Nat} {S : Nat → Nat} {w : Nat → List (List Int)} {i : Nat} (h : i < n) : (cL n S w)[i]? = some (inp i (S i) (w i)) := by simp [cL,h]
theorem vB {n : Nat} {S : Nat → Nat} {V : Nat → Int} {i : Nat} (h : i < n) : (dM n S V)[i]? = some (lS i (S i) (V i)) := by simp [dM,h]
theorem aN4 {n : Nat} {S : Nat → Nat} {w w' : Nat → List (List Int)} {j : Nat} (h : ∀ i,i < n → i ≠ j → w' i = w i) : (cL n S w).set j (inp j (S j) (w' j)) = cL n S w' := by
 apply List.ext_getElem?
 intro i
 by_cases hi : i < n
 ·rw [xI hi]
  by_cases hj : j = i
  ·subst hj
   rw [List.getElem?_set_self (by rw [nB]; exact hi)]
  ·rw [List.getElem?_set_ne hj,xI hi,h i hi (fun e => hj e.symm)]
 ·rw [List.getElem?_eq_none (by rw [List.length_set,nB]; omega),List.getElem?_eq_none (by rw [nB]; omega)]
theorem aMY {n : Nat} {S : Nat → Nat} {V V' : Nat → Int} {j : Nat} (h : ∀ i,i < n → i ≠ j → V' i = V i) : (dM n S V).set j (lS j (S j) (V' j)) = dM n S V' := by
 apply List.ext_getElem?
 intro i
 by_cases hi : i < n
 ·rw [vB hi]
  by_cases hj : j = i
  ·subst hj
   rw [List.getElem?_set_self (by rw [qJ]; exact hi)]
  ·rw [List.getElem?_set_ne hj,vB hi,h i hi (fun e => hj e.symm)]
 ·rw [List.getElem?_eq_none (by rw [List.length_set,qJ]; omega),List.getElem?_eq_none (by rw [qJ]; omega)]
theorem u6 {n : Nat} {S : Nat → Nat} {w : Nat → List (List Int)} {x : aF} (h : x ∈ cL n S w) : ∃ i,i < n ∧ x = inp i (S i) (w i) := by
 simp only [cL,List.mem_map,List.mem_range] at h
 obtain ⟨i,hi,rfl⟩ := h
 exact ⟨i,hi,rfl⟩
theorem aED {n : Nat} {S : Nat → Nat} {V : Nat → Int} {x : aT} (h : x ∈ dM n S V) : ∃ i,i < n ∧ x = lS i (S i) (V i) := by
 simp only [dM,List.mem_map,List.mem_range] at h
 obtain ⟨i,hi,rfl⟩ := h
 exact ⟨i,hi,rfl⟩
theorem aQt (s : Nat) : (scr s).length = 35 := by unfold scr; rw [List.length_append,aA1,bZ]; rfl
theorem aCT (s : Nat) : Byt (scr s) := by
 have : Pz (scr s) _ := (Pz.push (r6 (kp s)) (by rw [bZ]; omega)).app (Pz.code (c := 10) (by simp)) (by rw [aA1,bZ]; decide)
 exact this.byt
structure SS (n : Nat) (S : Nat → Nat) (outs : List aE) : Prop where
 n1 : 1 ≤ n
 n2 : n ≤ 2
 sd : ∀ i,S i < 256
 ol : outs.length ≤ 4
 ov : ∀ o ∈ outs,0 ≤ o.Value ∧ o.Value ≤ 65625000000000 ∧ o.Script.length ≤ 520 ∧ Byt o.Script
def WW (w : Nat → List (List Int)) : Prop := ∀ i,(w i).length ≤ 1 ∧ ∀ z ∈ w i,z.length = 64 ∧ Byt z
section
variable {n : Nat} {S : Nat → Nat} {outs : List aE} (H : SS n S outs)
include H
theorem aCW {w : Nat → List (List Int)} (hw : WW w) : aCd (cL n S w) outs := by
 refine ⟨by rw [nB]; have := H.n2; omega,by have := H.ol; omega,fun x hx => ?_,fun o ho => by have := (H.ov o ho).2.2.1; omega,fun x hx => ?_⟩
 ·obtain ⟨i,_,rfl⟩ := u6 hx
  exact ⟨Nat.le_trans (hw i).1 (by omega),fun z hz => by have := ((hw i).2 z hz).1; omega⟩
 ·obtain ⟨i,_,rfl⟩ := u6 hx
  rfl
theorem aRH {i s : Nat} (hi : i < 256) (hs : s < 256) : Byt (oP i s).Tx := by
 intro x hx
 simp only [oP,List.mem_cons,List.not_mem_nil,or_false] at hx
 omega
theorem aCX {w : Nat → List (List Int)} : aLY (cL n S w) outs := by
 refine ⟨fun x hx => ?_,fun o ho => (H.ov o ho).2.2.2⟩
 obtain ⟨i,hi,rfl⟩ := u6 hx
 exact aRH H (by have := H.n2; omega) (H.sd i)
theorem aM8 {w : Nat → List (List Int)} (hw : WW w) : ∀ x ∈ cL n S w,∀ z ∈ x.Witness,Byt z := by
 intro x hx z hz
 obtain ⟨i,_,rfl⟩ := u6 hx
 exact ((hw i).2 z hz).2
theorem aJO {w : Nat → List (List Int)} (hw : WW w) (v : Int) : aA5 v (cL n S w) outs 0 = true := by
 have h2 := H.n2
 have hol := H.ol
 have e1 : outs.all aFo = true := List.all_eq_true.2 fun o ho => by
  obtain ⟨a,_,b,_⟩ := H.ov o ho
  unfold aFo
  rw [decide_eq_false (by omega),decide_eq_true b]; rfl
 have e2 : (cL n S w).all aHb = true := List.all_eq_true.2 fun x hx => by
  obtain ⟨i,_,rfl⟩ := u6 hx
  unfold aHb
  have a : (inp i (S i) (w i)).Witness.length ≤ 32 := Nat.le_trans (hw i).1 (by omega)
  have b : ((inp i (S i) (w i)).Witness.all fun z => decide (z.length ≤ 520)) = true := List.all_eq_true.2 fun z hz => decide_eq_true (by have := ((hw i).2 z hz).1; omega)
  rw [decide_eq_true a,b]; rfl
 have l1 := pL (g := inB) (c := 40) (cL n S w) (fun x hx => by
  obtain ⟨i,_,rfl⟩ := u6 hx
  exact Nat.le_of_eq (aHk rfl))
 have l2 := pL (g := r3) (c := 613) outs (fun o ho => aE5 (by have := (H.ov o ho).2.2.1; omega))
 have l3 := pL (g := wiB) (c := 100) (cL n S w) (fun x hx => by
  obtain ⟨i,_,rfl⟩ := u6 hx
  have q := pL (g := itB) (c := 90) (w i) (fun z hz => by
   have := ((hw i).2 z hz).1
   have := nX z.length
   simp only [itB,List.length_append]; omega)
  have q1 := (hw i).1
  have q2 := nX (w i).length
  have q3 : (w i).length * 90 ≤ 1 * 90 := Nat.mul_le_mul_right _ q1
  show (szB (w i).length ++ (w i).flatMap itB).length ≤ 100
  rw [List.length_append]; omega)
 rw [nB] at l1 l3
 have s1 := nX (cL n S w).length
 have s2 := nX outs.length
 have m1 : n * 40 ≤ 2 * 40 := Nat.mul_le_mul_right _ h2
 have m2 : outs.length * 613 ≤ 4 * 613 := Nat.mul_le_mul_right _ hol
 have m3 : n * 100 ≤ 2 * 100 := Nat.mul_le_mul_right _ h2
 have e3 : (aLj v (cL n S w) outs 0 true).length ≤ 20000 := by
  simp only [aLj,if_true,List.length_append,gG]
  omega
 unfold aA5
 rw [e1,e2,decide_eq_true e3,decide_eq_true (show (cL n S w).length ≤ 64 by rw [nB]; omega),decide_eq_true (show outs.length ≤ 64 by omega)]
 rfl
omit H in
theorem aQ4 (N : Nat) (v : Int) (w w' : Nat → List (List Int)) (outs : List aE) (lock i oV : Int) (oS : List Int) : aA3 N v (cL n S w) outs lock i oV oS = aA3 N v (cL n S w') outs lock i oV oS := by
 unfold aA3
 have e1 : (cL n S w).flatMap ptB = (cL n S w').flatMap ptB := by
  unfold cL
  rw [List.flatMap_map,List.flatMap_map]
  rfl
 have e2 : (cL n S w).flatMap sqB = (cL n S w').flatMap sqB := by
  unfold cL
  rw [List.flatMap_map,List.flatMap_map]
  rfl
 rw [e1,e2]
def vD (N : Nat) (v : Int) (n : Nat) (S : Nat → Nat) (outs : List aE) (i : Nat) (oV : Int) : List Int := vX N aG7 (aA3 N v (cL n S fun _ => []) outs 0 (i : Int) oV (scr (S i)))
theorem aGW (N : Nat) (v : Int) {w : Nat → List (List Int)} (hw : WW w) {i : Nat} (hi : i < n) {oV : Int} (hv : 0 ≤ oV) : yX N v (cL n S w) outs 0 (i : Int) oV (scr (S i)) = (vD N v n S outs i oV,0) := by
 unfold yX vD
 rw [aJO H hw,aQt,decide_eq_false (by omega),decide_eq_false (by omega),nB,decide_eq_false (by omega),decide_eq_false (by omega),aQ4 N v w (fun _ => [])]
 rfl
omit H in
theorem aGg (s : Nat) : kx s < gQ ∧ kx s ≠ 0 ∧ 4 ^ kx s % gP ≠ 1 := by
 have hv : (s + 1) % 256 < 256 := Nat.mod_lt _ (by decide)
 refine ⟨Nat.lt_trans (Nat.add_lt_add_left hv _) (by decide +kernel), ?_,aQ6 hv⟩
 have : 0 < aI6 := by decide +kernel
 unfold kx
 omega
omit H in
theorem aFT {N : Nat} (hN : 70000 ≤ N) (s : Nat) : hY N [0,0,0,0,0,1,0,0,0,0,0,0,0,0,0,0,0,0,0,0,0,0,0,0,0,0,0,0,0,0,0,IntKind.u8.wrap ((s : Int) + 1)] = some (U (kx s)) := by
 have hv : (s + 1) % 256 < 256 := Nat.mod_lt _ (by decide)
 have hkx := (aGg s).1
 rw [show IntKind.u8.wrap ((s : Int) + 1) = (((s + 1) % 256 : Nat) : Int) by rw [IntKind.wrap_u8]; omega]
 unfold kx at hkx ⊢
 generalize (s + 1) % 256 = v at *
 have hbyt : Byt [0,0,0,0,0,1,0,0,0,0,0,0,0,0,0,0,0,0,0,0,0,0,0,0,0,0,0,0,0,0,0,(v : Int)] := by
  intro x hx
  simp only [List.mem_cons,List.not_mem_nil,or_false] at hx
  omega
 have hsc := aEb hN (aDH [0,0,0,0,0,1,0,0,0,0,0,0,0,0,0,0,0,0,0,0,0,0,0,0,0,0,0,0,0,0,0,(v : Int)])
 rw [aCv rfl hbyt,aRy hv,Nat.mod_eq_of_lt hkx] at hsc
 exact hsc
def SigOk (N : Nat) (v : Int) (n : Nat) (S : Nat → Nat) (outs : List aE) (i : Nat) (oV : Int) (sg : List Int) : Prop :=
 ∃ k,k < gQ ∧ kA N (U (kx (S i))) (vD N v n S outs i oV) = some (U k) ∧
  sg = bT (tH N (4 ^ k % gP) (kp (S i)) (vD N v n S outs i oV)) ++ bT ((k + tH N (4 ^ k % gP) (kp (S i)) (vD N v n S outs i oV) * kx (S i)) % gQ)
omit H in
theorem aJ5 {N : Nat} (hN : 70000 ≤ N) (v : Int) (n : Nat) (S : Nat → Nat) (outs : List aE) (i : Nat) (oV : Int) : ∃ sg,SigOk N v n S outs i oV sg := by
 obtain ⟨k,hk,hn⟩ := aMI hN (kx (S i)) (kP N aG7 (aA3 N v (cL n S fun _ => []) outs 0 (i : Int) oV (scr (S i)))) (nM N _ _)
 exact ⟨_,k,hk,hn,rfl⟩
omit H in
theorem SigOk.len {N : Nat} {v : Int} {i : Nat} {oV : Int} {sg : List Int} (h : SigOk N v n S outs i oV sg) : sg.length = 64 ∧ Byt sg := by
 obtain ⟨k,_,_,rfl⟩ := h
 exact ⟨by simp [bZ],(r6 _).append (r6 _)⟩
end
abbrev V0 : Nat → Int := fun _ => 525000000000000
theorem aL5 (i : Nat) (S : Nat → Nat) (V : Nat → Int) : dM (i + 1) S V = dM i S V ++ [lS i (S i) (V i)] := by simp [dM,List.range_succ]
theorem aMW (i : Nat) (S : Nat → Nat) (w : Nat → List (List Int)) : cL (i + 1) S w = cL i S w ++ [inp i (S i) (w i)] := by simp [cL,List.range_succ]
theorem aGo {n : Nat} {S : Nat → Nat} {w w' : Nat → List (List Int)} (h : ∀ i,i < n → w i = w' i) : cL n S w = cL n S w' := by
 unfold cL
 exact List.map_congr_left fun i hi => by rw [h i (List.mem_range.1 hi)]
def wJ (sg : Nat → List Int) (j : Nat) : Nat → List (List Int) := fun i => if i < j then [sg i] else []
theorem WW.wJ {sg : Nat → List Int} (h : ∀ i,(sg i).length = 64 ∧ Byt (sg i)) (j : Nat) : WW (wJ sg j) := fun i => by
 unfold Proofs.YtnoklhehodlkaaaGreatDoor.wJ
 split
 ·exact ⟨by simp,by intro z hz; rw [List.mem_singleton] at hz; subst hz; exact h i⟩
 ·exact ⟨by simp,by intro z hz; cases hz⟩
theorem WW.one {sg : Nat → List Int} (h : ∀ i,(sg i).length = 64 ∧ Byt (sg i)) : WW fun i => [sg i] := fun i => ⟨by simp,by intro z hz; rw [List.mem_singleton] at hz; subst hz; exact h i⟩
section
variable {N : Nat} (hN : 70000 ≤ N) {bE : List Int} {n : Nat} {S : Nat → Nat} (hS : ∀ i (h : i < bE.length),bE[i] = ((S i : Nat) : Int)) (hsd : ∀ i,S i < 256) (hn : n = min 2 bE.length)
include hN hS hsd hn
theorem aIc (v lock : Int) (outs : List aE) : ∀ (f i : Nat),3 ≤ f + i → i ≤ n → fQ N bE v outs lock f (i : Int) (dM i S V0) (cL i S fun _ => []) = some (dM n S V0,cL n S fun _ => [])
 | 0,i,hf,hi => by omega
 | f + 1,i,hf,hi => by
  rw [fQ]
  by_cases h1 : i < bE.length
  ·rw [dT h1,if_pos rfl]
   by_cases h2 : i < 2
   ·rw [show decide ((i : Int) < 2) = true from decide_eq_true (by omega)]
    unfold qB
    obtain ⟨q1,q2,q3⟩ := aGg (S i)
    have hs := hsd i
    rw [if_pos rfl,b9 bE h1,Option.bind_some,hS i h1,aFT hN,Option.bind_some,bI,Option.bind_some,aEC hN q2 q1,Option.bind_some,bI,Option.bind_some,aM0 hN,Option.bind_some,
     show IntKind.u8.wrap (i : Int) = (i : Int) by rw [IntKind.wrap_u8]; omega,show IntKind.u32.wrap ((S i : Nat) : Int) = ((S i : Nat) : Int) by rw [IntKind.wrap_u32]; omega]
    rw [aAQ (by have := lP; rw [qJ]; simp; omega),Option.bind_some,aAQ (by have := lP; rw [nB]; simp; omega),Option.bind_some,i1 (by omega)]
    have := aIc v lock outs f (i + 1) (by omega) (by omega)
    rw [aL5,aMW] at this
    exact this
   ·rw [show decide ((i : Int) < 2) = false from decide_eq_false (by omega)]
    obtain rfl : i = n := by omega
    rfl
  ·rw [dF h1]
   obtain rfl : i = n := by omega
   rfl
variable {outs : List aE} (H : SS n S outs) {v : Int} {sg : Nat → List Int} (hsg : ∀ i,SigOk N v n S outs i 525000000000000 (sg i))
include H hsg
theorem aIh (l3 : List aF) (hl3 : l3.length = n) : ∀ (f j : Nat),n - j < f → j ≤ n → i3 N bE v outs 0 (dM n S V0) l3 f (j : Int) (cL n S (wJ sg j)) = some (cL n S fun i => [sg i])
 | 0,j,hf,hj => by omega
 | f + 1,j,hf,hj => by
  have h2 := H.n2
  rw [i3,hl3]
  by_cases h : j < n
  ·have hsl : j < bE.length := by omega
   have hw : WW (wJ sg j) := WW.wJ (fun i => (hsg i).len) j
   obtain ⟨q1,q2,q3⟩ := aGg (S j)
   obtain ⟨k,hk,hno,he⟩ := hsg j
   have hmess := aGW H N v hw h (show (0 : Int) ≤ 525000000000000 by omega)
   have hml : (vD N v n S outs j 525000000000000).length = 32 := kP _ _ _
   have hmb : Byt (vD N v n S outs j 525000000000000) := nM _ _ _
   have hsign := aQA hN q2 q1 hk hml hmb hno
   have hins : b5 (cL n S (wJ sg j)) (j : Int) = some (inp j (S j) (wJ sg j j)) := by rw [aBC,xI h]
   have hco : b5 (dM n S V0) (j : Int) = some (lS j (S j) 525000000000000) := by rw [aBC,vB h]
   rw [dT h,if_pos rfl,b9 bE hsl,Option.bind_some,hS j hsl,aFT hN,Option.bind_some,bI,Option.bind_some,hco,Option.bind_some,
    show (lS j (S j) 525000000000000).Output.Value = 525000000000000 from rfl,show (lS j (S j) 525000000000000).Output.Script = scr (S j) from rfl,
    aBl N hN (aCW H hw) (aCX H) (aCT (S j)),hmess,Option.bind_some]
   dsimp only
   rw [cR hml,Option.bind_some,hsign,Option.bind_some]
   dsimp only
   rw [aMt hN,Option.bind_some,hins,Option.bind_some,i1 (by omega),Int.toNat_natCast]
   have hset := aN4 (n := n) (S := S) (w := wJ sg j) (w' := wJ sg (j + 1)) (j := j) (fun i hi hne => by
    unfold wJ
    by_cases hij : i < j
    ·rw [if_pos hij,if_pos (by omega)]
    ·rw [if_neg hij,if_neg (by omega)])
   have hw1 : wJ sg (j + 1) j = [sg j] := by unfold wJ; rw [if_pos (by omega)]
   rw [hw1,he] at hset
   have := aIh l3 hl3 f (j + 1) (by omega) (by omega)
   rw [← hset] at this
   exact this
  ·rw [dF h]
   obtain rfl : j = n := by omega
   rw [aGo (w := wJ sg j) (w' := fun i => [sg i]) (fun i hi => by unfold wJ; rw [if_pos hi])]
   rfl
theorem aMc {ins : List aF} : uL N bE v ins outs 0 = some (v,cL n S (fun i => [sg i]),outs,0,dM n S V0) := by
 have h2 := H.n2
 have h1 := aIc hN hS hsd hn v 0 outs N 0 (by omega) (by omega)
 have e1 := aIh hN hS hsd hn H hsg (cL n S fun _ => []) (nB _ _ _) N 0 (by omega) (by omega)
 rw [aGo (w := wJ sg 0) (w' := fun _ => []) (fun i hi => by unfold wJ; rw [if_neg (by omega)])] at e1
 unfold uL
 rw [show fQ N bE v outs 0 N 0 [] [] = _ from h1,Option.bind_some]
 unfold tW t5
 dsimp only
 rw [show i3 N bE v outs 0 (dM n S V0) (cL n S fun _ => []) N 0 (cL n S fun _ => []) = _ from e1]
 rfl
end
theorem aNt {i s : Nat} (hs : s < 256) : aAH (oP i s) = false := by
 unfold aAH
 rw [xK rfl (by simp)]
 have : ((oP i s).Index == 4294967295) = false := by
  show ((s : Int) == 4294967295) = false
  simp; omega
 rw [this]; simp
theorem aHc {B : Int} (hB : 0 ≤ B) : ∀ {l : List aE},(∀ o ∈ l,o.Value ≤ B) → tK l ≤ l.length * B
 | [],_ => by simp [tK]
 | o :: l,h => by
  have ih := aHc hB (l := l) (fun x hx => h x (by simp [hx]))
  have h0 := h o (by simp)
  rw [aEe,List.length_cons]
  have : ((l.length + 1 : Nat) : Int) * B = l.length * B + B := by rw [Int.natCast_add,Int.add_mul]; simp
  omega
theorem aJZ : ∀ (l : List aE) (s : Int),(∀ o ∈ l,0 ≤ o.Value) → -9000000000000000000 ≤ s - tK l → s ≤ 9000000000000000000 → l.foldl (fun s o => IntKind.i64.wrap (s - o.Value)) s = s - tK l
 | [],s,_,_,_ => by simp [tK]
 | o :: l,s,h,h1,h2 => by
  have h0 := h o (by simp)
  have hl : ∀ x ∈ l,0 ≤ x.Value := fun x hx => h x (by simp [hx])
  have hp := aAw hl
  rw [aEe] at h1 ⊢
  rw [List.foldl_cons,cG (by omega) (by omega),aJZ l _ hl (by omega) (by omega)]
  omega
section
variable {n : Nat} {S : Nat → Nat} {outs : List aE} (H : SS n S outs) {w : Nat → List (List Int)} (hw : WW w) (v : Int)
include H hw
theorem aJ9 : ∀ x ∈ cL n S w,aAH x.Prev = false := by
 intro x hx
 obtain ⟨i,_,rfl⟩ := u6 hx
 exact aNt (H.sd i)
theorem aI9 : cbB (cL n S w) = false := by
 have h := aJ9 H hw
 unfold cbB
 split
 ·rename_i x hx
  exact h x (by rw [hx]; simp)
 ·rfl
theorem aRp : (List.range' 0 (cL n S w).length).all (nd (cL n S w)) = true := by
 rw [nB]
 refine List.all_eq_true.2 fun j hj => ?_
 have hj' : j < n := by simpa using hj
 refine List.all_eq_true.2 fun k hk => ?_
 have hk' : k < j := by simpa using hk
 unfold qd
 rw [xI hj',xI (by omega)]
 show (!mS (oP j (S j)) (oP k (S k))) = true
 unfold mS
 rw [xK rfl rfl]
 have : ((oP j (S j)).Tx == (oP k (S k)).Tx) = false := by
  rw [beq_eq_false_iff_ne]
  intro he
  have h0 := congrArg List.head? he
  simp only [oP,List.head?_cons,Option.some.injEq] at h0
  omega
 rw [this]; rfl
theorem aQS (hne : outs ≠ []) : chk v (cL n S w) outs 0 = 0 := by
 have hso := aHc (B := 65625000000000) (by omega) (l := outs) (fun o ho => (H.ov o ho).2.1)
 have hol := H.ol
 have hb : (outs.length : Int) * 65625000000000 ≤ 262500000000000 := by omega
 have hz : (outs.length == 0) = false := by
  cases outs with
  | nil => exact absurd rfl hne
  | cons o l => rfl
 have hn : ((cL n S w).length == 0) = false := by rw [nB]; have := H.n1; simp; omega
 have ha : ((cL n S w).any fun x => aAH x.Prev) = false := by
  rw [List.any_eq_false]
  intro x hx
  rw [aJ9 H hw x hx]
  exact fun h => by cases h
 unfold chk
 rw [aJO H hw,if_neg (by decide),hz,hn,if_neg (by decide),if_neg (fun h => h (by omega)),aRp H hw,if_neg (by decide),ha]
 rfl
theorem aNz (he : outs = []) : chk v (cL n S w) outs 0 = 93 := by
 have hf := aJO H hw v
 unfold chk
 rw [hf,if_neg (by decide),he,if_pos (by simp)]
theorem aQH (hne : outs ≠ []) {V : Nat → Int} (hV : ∀ i,524999999999745 ≤ V i ∧ V i ≤ 525000000000000) : ∃ fee,0 ≤ fee ∧ wY v (cL n S w) outs 0 (dM n S V) = (fee,0) := by
 have hso := aHc (B := 65625000000000) (by omega) (l := outs) (fun o ho => (H.ov o ho).2.1)
 have hs0 := aAw (l := outs) (fun o ho => (H.ov o ho).1)
 have hol := H.ol
 have h1 := H.n1
 have h2 := H.n2
 have hc : 524999999999745 ≤ rS (dM n S V) ∧ rS (dM n S V) ≤ 1050000000000000 := by
  have v0 := hV 0
  have v1 := hV 1
  rcases (show n = 1 ∨ n = 2 by omega) with rfl | rfl
  ·rw [show rS (dM 1 S V) = V 0 + 0 from rfl]; omega
  ·rw [show rS (dM 2 S V) = V 0 + (V 1 + 0) from rfl]; omega
 have hm : (List.range' 0 (dM n S V).length).all (mtc (dM n S V) (cL n S w)) = true := by
  rw [qJ]
  refine List.all_eq_true.2 fun j hj => ?_
  have hj' : j < n := by simpa using hj
  unfold mtc
  rw [vB hj',xI hj']
  show o8 (oP j (S j)).Tx (oP j (S j)).Tx (((oP j (S j)).Index == (oP j (S j)).Index) && true) = true
  rw [xK rfl rfl]
  simp
 have hnn : (dM n S V).all nnC = true := List.all_eq_true.2 fun c hc => by
  obtain ⟨i,_,rfl⟩ := aED hc
  have := hV i
  show (!decide (V i < 0)) = true
  rw [decide_eq_false (by omega)]; rfl
 have hf := aJZ outs (rS (dM n S V)) (fun o ho => (H.ov o ho).1) (by omega) (by omega)
 refine ⟨rS (dM n S V) - tK outs,by omega, ?_⟩
 unfold wY
 rw [aQS H hw v hne,if_neg (fun h => h rfl),if_neg (show ¬ (dM n S V).length ≠ (cL n S w).length by rw [qJ,nB]; exact fun h => h rfl),hm,if_neg (by decide),if_neg (fun h => h ⟨hnn,by omega⟩),hf,if_neg (by omega)]
end
section
variable {N : Nat} (hN : 70000 ≤ N) {n : Nat} {S : Nat → Nat} {outs : List aE} (H : SS n S outs) {v : Int} {sg : Nat → List Int} (hsl : ∀ i,(sg i).length = 64 ∧ Byt (sg i))
include hN H hsl
theorem aKP {V : Nat → Int} {i : Nat} (hi : i < n) (hV : 0 ≤ V i) : zP N v (cL n S fun i => [sg i]) outs 0 (dM n S V) 5 i = rH N (vD N v n S outs i (V i)) (bT (kp (S i))) (sg i) := by
 have hm := aGW H N v (WW.one hsl) hi hV
 unfold zP
 rw [vB hi,xI hi]
 show aBX N v (cL n S fun i => [sg i]) outs 0 5 i (lS i (S i) (V i)) (inp i (S i) [sg i]) = _
 unfold aBX
 rw [show (lS i (S i) (V i)).Output.Value = V i from rfl,show (lS i (S i) (V i)).Output.Script = scr (S i) from rfl,hm,if_neg (fun h => h rfl)]
 have ha : o8 (inp i (S i) [sg i]).Prev.Tx (lS i (S i) (V i)).Out.Tx (((inp i (S i) [sg i]).Prev.Index == (lS i (S i) (V i)).Out.Index) && true) = true := by
  show o8 (oP i (S i)).Tx (oP i (S i)).Tx (((oP i (S i)).Index == (oP i (S i)).Index) && true) = true
  rw [xK rfl rfl]
  simp
 rw [ha,if_neg (by decide),if_neg (show ¬ ((lS i (S i) (V i)).Height < 0 ∨ 5 < (lS i (S i) (V i)).Height ∨ (16777216 : Int) < 5) by show ¬ ((1 : Int) < 0 ∨ (5 : Int) < 1 ∨ (16777216 : Int) < 5); decide)]
 exact aL9 (hsl i).1
theorem aHS (hne : outs ≠ []) {V : Nat → Int} (hV : ∀ i,524999999999745 ≤ V i ∧ V i ≤ 525000000000000) : ∃ fee,0 ≤ fee ∧ lW N v (cL n S fun i => [sg i]) outs 0 (dM n S V) 5 =
  some (if pR (zP N v (cL n S fun i => [sg i]) outs 0 (dM n S V) 5) 0 n = 0 then (fee,0) else (0,pR (zP N v (cL n S fun i => [sg i]) outs 0 (dM n S V) 5) 0 n)) := by
 have hw := WW.one hsl
 have h2 := H.n2
 obtain ⟨fee,hf0,hf⟩ := aQH H hw v hne hV
 refine ⟨fee,hf0, ?_⟩
 rw [aJi N hN (aCW H hw) (aCX H) (aM8 H hw) (by rw [qJ]; omega) (fun c hc => by
  obtain ⟨i,_,rfl⟩ := aED hc
  exact aCT (S i)) (by omega)]
 unfold aGr
 rw [aI9 H hw,if_neg (by decide),hf,if_neg (fun h => h rfl),show (decide (IntKind.i64.wrap 0 ≤ 5) || (cL n S fun i => [sg i]).all fun x => !(x.Sequence != 4294967295)) = true by rw [show decide (IntKind.i64.wrap 0 ≤ 5) = true by decide +kernel]; rfl,if_neg (by decide),qJ]
theorem aL0 (he : outs = []) : lW N v (cL n S fun i => [sg i]) outs 0 (dM n S V0) 5 = some (0,93) := by
 have hw := WW.one hsl
 have h2 := H.n2
 rw [aJi N hN (aCW H hw) (aCX H) (aM8 H hw) (by rw [qJ]; omega) (fun c hc => by
  obtain ⟨i,_,rfl⟩ := aED hc
  exact aCT (S i)) (by omega)]
 unfold aGr wY
 rw [aI9 H hw,if_neg (by decide),aNz H hw v he,if_pos (show (93 : Int) ≠ 0 by decide)]
 dsimp only
 rw [if_pos (show (93 : Int) ≠ 0 by decide)]
end
section
variable {N : Nat} (hN : 70000 ≤ N)
include hN
theorem aNy {s k : Nat} {m m' : List Int} (hs : s < 256) (hm : m.length = 32) (hmb : Byt m) (hm' : m'.length = 32) (hmb' : Byt m') (hk : k < gQ) (hno : kA N (U (kx s)) m = some (U k)) :
  vW N (s : Int) m m' = some (!decide (tH N (4 ^ k % gP) (kp s) m = tH N (4 ^ k % gP) (kp s) m')) := by
 obtain ⟨q1,q2,q3⟩ := aGg s
 have c1 := aCN N (4 ^ k % gP) (kp s) m
 have c2 := aCN N (4 ^ k % gP) (kp s) m'
 unfold vW
 rw [aFT hN,Option.bind_some,bI,Option.bind_some,aEC hN q2 q1,Option.bind_some]
 dsimp only
 rw [bI,Option.bind_some,cR hm,Option.bind_some,hno,Option.bind_some,aFp hN (Nat.lt_trans hk o7),Option.bind_some,bI,Option.bind_some]
 rw [show U (4 ^ kx s % 115792089237316195423570985008687907853269984665640564039457584007913129603823) = U (kp s) from rfl]
 rw [aB3 hN _ _ hm hmb,Option.bind_some,cR hm',Option.bind_some,aB3 hN _ _ hm' hmb',Option.bind_some,bI,Option.bind_some,bI,Option.bind_some,aCi (Nat.lt_trans c1 o7) (Nat.lt_trans c2 o7)]
theorem aMR (bE : List Int) (v : Int) (ins : List aF) (outs : List aE) (lock by' : Int) (hn : outs.length ≤ 1000) :
  cP N bE v ins outs lock by' N 0 = some (if (outs.all fun o => !decide (o.Value < 0) && (!decide (65625000000000 < o.Value) && !decide (520 < (o.Script.length : Int)))) = true then .brk () else .ret true) := by
 have := n8 (f := cP N bE v ins outs lock by') (xs := outs) (p := fun o => !decide (o.Value < 0) && (!decide (65625000000000 < o.Value) && !decide (520 < (o.Script.length : Int)))) (r := true) (fun m j hj => by
  rw [cP,dT hj,if_pos rfl,b9 outs hj]
  simp only [Option.bind_some,iO,i1 (show j ≤ 100000 by omega)]
  cases decide (outs[j].Value < 0) with
  | true => rfl
  | false =>
   cases decide (65625000000000 < outs[j].Value) with
   | true => rfl
   | false => cases decide (520 < (outs[j].Script.length : Int)) <;> rfl) (fun m j hj => by rw [cP,dF (by omega)]; rfl) N 0 (by omega) (by omega)
 rw [show ((0 : Nat) : Int) = 0 from rfl,List.drop_zero] at this
 exact this
theorem aMB {bE : List Int} (hsb : Byt bE) (hne0 : bE ≠ []) {v by' : Int} {ins : List aF} {outs : List aE} {lock : Int} (hol : outs.length ≤ 4)
  (hov : ∀ o ∈ outs,0 ≤ o.Value ∧ o.Value ≤ 65625000000000 ∧ o.Script.length ≤ 520 ∧ Byt o.Script) (hby : 0 ≤ by' ∧ by' < 256) : kE N bE v ins outs lock by' = some true := by
 obtain ⟨n,hn⟩ : ∃ n,n = min 2 bE.length := ⟨_,rfl⟩
 have hlen : 1 ≤ bE.length := by
  cases bE with
  | nil => exact absurd rfl hne0
  | cons x l => simp
 obtain ⟨S,hS,hsd⟩ : ∃ S : Nat → Nat,(∀ i (h : i < bE.length),bE[i] = ((S i : Nat) : Int)) ∧ ∀ i,S i < 256 := by
  refine ⟨fun i => (bE.getD i 0).toNat,fun i h => ?_,fun i => ?_⟩
  ·have := hsb _ (List.getElem_mem h)
   simp only [List.getD_eq_getElem?_getD,List.getElem?_eq_getElem h,Option.getD_some]
   omega
  ·simp only [List.getD_eq_getElem?_getD]
   cases hg : bE[i]? with
   | none => simp
   | some x =>
    have := hsb x (List.mem_of_getElem? hg)
    simp only [Option.getD_some]
    omega
 have H : SS n S outs := ⟨by omega,by omega,hsd,hol,hov⟩
 have hn1 := H.n1
 have hn2 := H.n2
 obtain ⟨sg,hsg⟩ : ∃ sg : Nat → List Int,∀ i,SigOk N v n S outs i 525000000000000 (sg i) :=
  ⟨fun i => Classical.choose (aJ5 hN v n S outs i 525000000000000),fun i => Classical.choose_spec (aJ5 hN v n S outs i 525000000000000)⟩
 have hsl := fun i => (hsg i).len
 have hval : ∀ i oV,∃ k,k < gQ ∧ kA N (U (kx (S i))) (vD N v n S outs i 525000000000000) = some (U k) ∧
   rH N (vD N v n S outs i oV) (bT (kp (S i))) (sg i) = if tH N (4 ^ k % gP) (kp (S i)) (vD N v n S outs i 525000000000000) = tH N (4 ^ k % gP) (kp (S i)) (vD N v n S outs i oV) then 0 else 61 := by
  intro i oV
  obtain ⟨k,hk,hno,he⟩ := hsg i
  obtain ⟨q1,q2,q3⟩ := aGg (S i)
  refine ⟨k,hk,hno, ?_⟩
  rw [he]
  exact aRX hN (aCN N (4 ^ k % gP) (kp (S i)) (vD N v n S outs i 525000000000000)) q3 (kP _ _ _) (nM _ _ _)
 have hsigned := aMc hN hS hsd hn H hsg (ins := ins)
 unfold kE
 rw [hsigned,Option.bind_some]
 dsimp only
 by_cases he : outs = []
 ·rw [if_pos (by rw [he]; rfl),aL0 hN H hsl he,Option.bind_some]
  rfl
 ·rw [if_neg (show ¬ ((outs.length : Int) == 0) = true by
   cases outs with
   | nil => exact absurd rfl he
   | cons o l => simp; omega)]
  obtain ⟨fee,hf0,hc⟩ := aHS hN H (v := v) hsl he (V := V0) (fun i => ⟨show (524999999999745 : Int) ≤ 525000000000000 by decide,Int.le_refl _⟩)
  have hz : pR (zP N v (cL n S fun i => [sg i]) outs 0 (dM n S V0) 5) 0 n = 0 := aCJ.2 fun i _ hi => by
   rw [aKP hN H hsl (V := V0) (by omega) (show (0 : Int) ≤ 525000000000000 by decide)]
   obtain ⟨k,_,_,hv⟩ := hval i 525000000000000
   rw [hv,if_pos rfl]
  rw [hz,if_pos rfl] at hc
  rw [hc,Option.bind_some]
  dsimp only
  rw [if_neg (show ¬ ((0 : Int) != 0) = true by decide),decide_eq_false (by omega)]
  unfold kZ
  simp only [Bool.false_eq_true,if_false]
  obtain ⟨V',hV'⟩ : ∃ V' : Nat → Int,V' = fun i => if i = 0 then 525000000000000 - by' else 525000000000000 := ⟨_,rfl⟩
  have hV0 : V' 0 = 525000000000000 - by' := by rw [hV']; rfl
  have hVr : ∀ i,524999999999745 ≤ V' i ∧ V' i ≤ 525000000000000 := fun i => by
   rw [hV']
   dsimp only
   split <;> omega
  have hset := aMY (n := n) (S := S) (V := V0) (V' := V') (j := 0) (fun i _ hi => by rw [hV']; dsimp only; rw [if_neg hi])
  have hc0 : b5 (dM n S V0) 0 = some (lS 0 (S 0) 525000000000000) := by
   have := aBC (dM n S V0) 0
   rw [vB (by omega)] at this
   exact this
  have hc0' : b5 (dM n S V') 0 = some (lS 0 (S 0) (V' 0)) := by
   have := aBC (dM n S V') 0
   rw [vB (by omega)] at this
   exact this
  have hs0 : b5 bE 0 = some ((S 0 : Nat) : Int) := by
   have := b9 bE (i := 0) (by omega)
   rw [hS 0 (by omega)] at this
   exact this
  have hww := WW.one hsl
  have hm0 := aBl N hN (aCW H hww) (aCX H) (v := v) (lock := 0) (i := 0) (oV := 525000000000000) (oS := scr (S 0)) (aCT (S 0))
  have hm1 := aBl N hN (aCW H hww) (aCX H) (v := v) (lock := 0) (i := 0) (oV := V' 0) (oS := scr (S 0)) (aCT (S 0))
  have e0 := aGW H N v hww (show 0 < n by omega) (show (0 : Int) ≤ 525000000000000 by omega)
  have e1 := aGW H N v hww (show 0 < n by omega) (show (0 : Int) ≤ V' 0 by have := hVr 0; omega)
  rw [show yX N v (cL n S fun i => [sg i]) outs 0 0 525000000000000 (scr (S 0)) = _ from e0] at hm0
  rw [show yX N v (cL n S fun i => [sg i]) outs 0 0 (V' 0) (scr (S 0)) = _ from e1] at hm1
  have ml0 : (vD N v n S outs 0 525000000000000).length = 32 := kP _ _ _
  have ml1 : (vD N v n S outs 0 (V' 0)).length = 32 := kP _ _ _
  have hcs : (dM n S V0).set (Int.toNat 0) (aT.mk (lS 0 (S 0) 525000000000000).Out (aE.mk (IntKind.i64.wrap ((lS 0 (S 0) 525000000000000).Output.Value - IntKind.i64.wrap by')) (lS 0 (S 0) 525000000000000).Output.Script) (lS 0 (S 0) 525000000000000).Height (lS 0 (S 0) 525000000000000).Coinbase) = dM n S V' := by
   rw [show (lS 0 (S 0) 525000000000000).Output.Value = 525000000000000 from rfl,cG (a := by') (by omega) (by omega),cG (a := 525000000000000 - by') (by omega) (by omega),← hV0]
   exact hset
  rw [hc0,Option.bind_some,hcs,show (lS 0 (S 0) 525000000000000).Output.Value = 525000000000000 from rfl,show (lS 0 (S 0) 525000000000000).Output.Script = scr (S 0) from rfl,hm0,Option.bind_some]
  dsimp only
  rw [cR ml0,Option.bind_some,hc0',Option.bind_some,show (lS 0 (S 0) (V' 0)).Output.Value = V' 0 from rfl,show (lS 0 (S 0) (V' 0)).Output.Script = scr (S 0) from rfl,hm1,Option.bind_some]
  dsimp only
  obtain ⟨fee',_,hc'⟩ := aHS hN H (v := v) hsl he (V := V') hVr
  obtain ⟨k,hk,hno,hv⟩ := hval 0 (V' 0)
  have hb := aNy hN (hsd 0) ml0 (nM _ _ _) ml1 (nM _ _ _) hk hno
  rw [cR ml1,Option.bind_some,hc',Option.bind_some,hs0,Option.bind_some,hb,Option.bind_some]
  by_cases hch : tH N (4 ^ k % gP) (kp (S 0)) (vD N v n S outs 0 525000000000000) = tH N (4 ^ k % gP) (kp (S 0)) (vD N v n S outs 0 (V' 0))
  ·rw [decide_eq_true hch]
   rfl
  ·rw [decide_eq_false hch]
   rw [if_neg hch] at hv
   have hi0 : zP N v (cL n S fun i => [sg i]) outs 0 (dM n S V') 5 0 = 61 := by
    rw [aKP hN H hsl (V := V') (by omega) (by have := hVr 0; omega),hv]
   have hfe : pR (zP N v (cL n S fun i => [sg i]) outs 0 (dM n S V') 5) 0 n = 61 := by
    obtain ⟨n',rfl⟩ : ∃ n',n = n' + 1 := ⟨n - 1,by omega⟩
    rw [pR,hi0,if_pos (by decide)]
   rw [hfe]
   rfl
end
def NN : Nat := 70000
theorem aPX : aBj NN = some true := by decide +kernel
theorem aFB (bE : List Int) (v : Int) (ins : List aF) (outs : List aE) (lock by' : Int) (hsb : Byt bE) (hob : ∀ o ∈ outs,Byt o.Script) (hby : 0 ≤ by' ∧ by' < 256) : nI NN bE v ins outs lock by' = some true := by
 have hN : 70000 ≤ NN := Nat.le_refl _
 have hJ : fT NN bE v ins outs lock by' true = some true := rfl
 unfold nI
 rw [aPX,Option.bind_some]
 simp only [Bool.not_true,Bool.false_eq_true,if_false]
 by_cases h0 : bE = []
 ·rw [if_pos (by rw [h0]; rfl)]; exact hJ
 ·rw [if_neg (show ¬ ((bE.length : Int) == 0) = true by
   cases bE with
   | nil => exact absurd rfl h0
   | cons o l => simp; omega)]
  by_cases h4 : 4 < outs.length
  ·rw [if_pos (decide_eq_true (by omega))]; exact hJ
  ·rw [if_neg (show ¬ decide ((4 : Int) < (outs.length : Int)) = true by simp; omega),aME NN hN,Option.bind_some]
   cases hk : aLB ins outs with
   | false => exact hJ
   | true =>
    simp only [Bool.not_true]
    unfold fT
    simp only [Bool.false_eq_true,if_false]
    rw [aMR hN _ _ _ _ _ _ (by omega),Option.bind_some]
    split
    ·rename_i w hw
     split at hw
     ·cases hw
     ·injection hw with hw
      subst hw
      rfl
    ·rename_i w hw
     split at hw
     ·rename_i hall
      refine aMB hN hsb h0 (by omega) (fun o ho => ?_) hby
      have := List.all_eq_true.1 hall o ho
      simp only [Bool.and_eq_true,Bool.not_eq_true',decide_eq_false_iff_not] at this
      refine ⟨by omega,by omega,by omega,hob o ho⟩
     ·cases hw
end Go.Proofs.YtnoklhehodlkaaaGreatDoor
