/- Texts of ours, joined: PlainH2, PlainX6, PlainU1, PlainU2, PlainU3, PlainU4, PlainC1, PlainC2, PlainC3, PlainC4, PlainC5, PlainC6, PlainC7, PlainSL, TyF. -/
import Derived.Test.YtagblcjgjlihaaaDoorQSpendLater3
set_option linter.unusedSimpArgs false
set_option linter.unusedVariables false
set_option linter.unusedSectionVars false
namespace Go.Proofs.YtagblcjgjlihaaaDoor
open Go Go.Vm
def beG (n : Nat) (i : Nat) : Int := IntKind.u8.wrap ((IntKind.u64.wrap (8 * (n : Int))).fdiv (2 ^ (56 - 8 * i)))
def zer (n : Nat) : Nat := (64 - (n + 9) % 64) % 64
def xN (n : Nat) : List Int := (128 :: List.replicate (zer n) 0) ++ (List.range' 0 8).map (beG n)
theorem aKg (n : Nat) : (xN n).length = 9 + zer n := by simp [xN]; omega
theorem aCl (x : Int) : 0 ≤ IntKind.u8.wrap x ∧ IntKind.u8.wrap x < 256 := by rw [IntKind.wrap_u8]; omega
theorem aKd (n : Nat) : Byt (xN n) := by
  intro x hx
  simp only [xN, List.mem_append, List.mem_cons, List.mem_replicate, List.mem_map] at hx
  rcases hx with (rfl | ⟨_, rfl⟩) | ⟨i, _, rfl⟩
  · omega
  · omega
  · exact aCl _
theorem aKO (a : Int) (s : Nat) (h : s ≤ 64) : shr .u64 a (s : Int) = some (a.fdiv (2 ^ s)) := by
  unfold shr
  rw [if_neg (by omega), Int.toNat_natCast, show min s IntKind.u64.bits = s from Nat.min_eq_left h]
theorem aGA (N n : Nat) : ∀ (k m : Nat) (acc : List Int), k ≤ 8 → k < m → acc.length + k ≤ 1000 → n7 N (n : Int) m ((8 - k : Nat) : Int) acc = some (acc ++ (List.range' (8 - k) k).map (beG n))
  | 0, m, acc, _, hm, _ => by
    obtain ⟨m, rfl⟩ : ∃ q, m = q + 1 := ⟨m - 1, by omega⟩
    rw [n7, show decide (((8 - 0 : Nat) : Int) < 8) = false from rfl]; simp
  | k + 1, m, acc, hk, hm, ha => by
    obtain ⟨m, rfl⟩ : ∃ q, m = q + 1 := ⟨m - 1, by omega⟩
    rw [n7, show decide (((8 - (k + 1) : Nat) : Int) < 8) = true from decide_eq_true (by omega), if_pos rfl]
    rw [fA (a := 8 * ((8 - (k + 1) : Nat) : Int)) (by omega) (by omega), fA (a := 56 - 8 * ((8 - (k + 1) : Nat) : Int)) (by omega) (by omega), show 56 - 8 * ((8 - (k + 1) : Nat) : Int) = ((56 - 8 * (8 - (k + 1)) : Nat) : Int) by omega, aKO _ _ (by omega)]
    simp only [Option.bind_some]
    rw [oJ (by simp; omega)]
    simp only [Option.bind_some, i1 (show 8 - (k + 1) ≤ 100000 by omega)]
    rw [show 8 - (k + 1) + 1 = 8 - k by omega, aGA N n k m _ (by omega) (by omega) (by simp; omega), List.range'_succ, List.map_cons, show 8 - (k + 1) + 1 = 8 - k by omega, List.append_assoc]
    rfl
theorem aMN (z : Nat) : (List.replicate (1 + z) (0 : Int)).set 0 128 = 128 :: List.replicate z 0 := by rw [Nat.add_comm, List.replicate_succ]; rfl
theorem aMM (N : Nat) (hN : 70000 ≤ N) (n : Nat) (hn : n ≤ 1000000000) : aA3 N (n : Int) = some (xN n) := by
  have hz : zer n < 64 := Nat.mod_lt _ (by omega)
  have hlim := p9
  unfold aA3
  rw [aCt (a := (n : Int) + 9) (by omega) (by omega), show (n : Int) + 9 = ((n + 9 : Nat) : Int) by omega, show (64 : Int) = ((64 : Nat) : Int) from rfl, zJ]
  have h1 : (n + 9) % 64 < 64 := Nat.mod_lt _ (by omega)
  rw [aCt (a := ((64 : Nat) : Int) - (((n + 9) % 64 : Nat) : Int)) (by omega) (by omega), show ((64 : Nat) : Int) - (((n + 9) % 64 : Nat) : Int) = ((64 - (n + 9) % 64 : Nat) : Int) by omega, zJ]
  rw [show ((64 - (n + 9) % 64) % 64 : Nat) = zer n from rfl, aCt (a := 1 + ((zer n : Nat) : Int)) (by omega) (by omega), aCt (a := 9 + ((zer n : Nat) : Int)) (by omega) (by omega)]
  have hm : mkl 1 (0 : Int) (1 + ((zer n : Nat) : Int)) (9 + ((zer n : Nat) : Int)) = some (List.replicate (1 + zer n) 0) := by
    unfold mkl
    rw [if_pos ⟨by omega, by omega, by omega⟩, show (1 + ((zer n : Nat) : Int)).toNat = 1 + zer n by omega]
  have h0 : dB (List.replicate (1 + zer n) (0 : Int)) 0 = some 0 := by
    rw [show (0 : Int) = ((0 : Nat) : Int) from rfl, aH4, List.getElem?_replicate, if_pos (by omega)]
  simp only [hm, Option.bind_some, h0, Int.toNat_zero, aMN]
  have := aGA N n 8 N (128 :: List.replicate (zer n) 0) (by omega) (by omega) (by simp; omega)
  rw [show ((8 - 8 : Nat) : Int) = 0 from rfl] at this
  rw [this]; rfl
theorem aBA {f : Nat → Int → List Int → Option (List Int)} (l : List (List Int)) (hn : l.length ≤ 1000) (ht : l.flatten.length ≤ 50000000)
    (hs : ∀ m j acc (hj : j < l.length), acc.length + l[j].length ≤ 50000000 → f (m + 1) (j : Int) acc = f m ((j + 1 : Nat) : Int) (acc ++ l[j])) (he : ∀ m j acc, l.length ≤ j → f (m + 1) (j : Int) acc = some acc) (N : Nat) (hN : 70000 ≤ N) :
    f N 0 [] = some l.flatten := by
  have hfl : l.flatMap id = l.flatten := by simp
  have := rP (f := f) (xs := l) (g := id) (B := 50000000) (by omega) hs he N 0 [] (by omega) (by omega) (by rw [List.drop_zero, hfl]; simpa using ht)
  rw [List.drop_zero, hfl] at this
  simpa using this
theorem aLD (N : Nat) (hN : 70000 ≤ N) (l : List (List Int)) (hn : l.length ≤ 1000) (ht : l.flatten.length ≤ 50000000) : y4 N l = some l.flatten := by
  have := aBA (f := nY N l) l hn ht (fun m j acc hj hB => by
    rw [nY, dT hj, if_pos rfl, cY l hj, Option.bind_some, oJ (by omega)]
    simp only [Option.bind_some, i1 (show j ≤ 100000 by omega)]) (fun m j acc hj => by rw [nY, dF (by omega)]; rfl) N hN
  unfold y4
  rw [this]; rfl
def cmp (N : Nat) (st blk : List Int) : List Int := (nF N st blk).getD []
def aCG (msg : List Int) (i : Nat) : List Int := (msg.drop (64 * i)).take 64
theorem aHh {l : List Int} (h : Byt l) (k : Nat) : Byt (l.take k) := fun x hx => h x (List.mem_of_mem_take hx)
theorem aGz {l : List Int} (h : Byt l) (k : Nat) : Byt (l.drop k) := fun x hx => h x (List.mem_of_mem_drop hx)
theorem aLz (N : Nat) (hN : 70000 ≤ N) (st blk : List Int) (hst : st.length = 8) (hb : Byt blk) (hl : blk.length = 64) : nF N st blk = some (cmp N st blk) ∧ (cmp N st blk).length = 8 := by
  obtain ⟨b, rfl, h2⟩ := aK5 hb
  obtain ⟨r, h3, h4⟩ := aKe N hN b (by rw [aHm] at hl; exact hl) h2 st hst
  have : cmp N st (iN b) = r := by simp [cmp, h3]
  rw [this]; exact ⟨h3, h4⟩
def aAn (N : Nat) (msg st : List Int) (j k : Nat) : List Int := (List.range' j k).foldl (fun s i => cmp N s (aCG msg i)) st
section
variable (N : Nat) (hN : 70000 ≤ N) (msg : List Int) (hb : Byt msg) (hl : msg.length ≤ 2000000)
include hN hb hl
theorem aGs : ∀ (m j : Nat) (st : List Int), msg.length / 64 - j < m → j ≤ msg.length / 64 → st.length = 8 → pH N msg m (j : Int) st = some (aAn N msg st j (msg.length / 64 - j)) ∧ (aAn N msg st j (msg.length / 64 - j)).length = 8
  | 0, j, st, hm, _, _ => by omega
  | m + 1, j, st, hm, hj, hst => by
    rw [pH, show (64 : Int) = ((64 : Nat) : Int) from rfl, z5, fA (a := ((msg.length / 64 : Nat) : Int)) (by omega) (by omega)]
    by_cases h : j < msg.length / 64
    · have hlen : (aCG msg j).length = 64 := by simp [aCG]; omega
      obtain ⟨c1, c2⟩ := aLz N hN st (aCG msg j) hst (aHh (aGz hb _) _) hlen
      rw [dT h, if_pos rfl, jT hst, fA (a := ((64 : Nat) : Int) * (j : Int)) (by omega) (by omega)]
      have e1 : sub msg (((64 : Nat) : Int) * (j : Int)) (msg.length : Int) = some (msg.drop (64 * j)) := by
        unfold sub
        rw [if_pos ⟨by omega, by omega, by omega⟩, show (((64 : Nat) : Int) * (j : Int)).toNat = 64 * j by omega, Int.toNat_natCast, List.take_of_length_le (Nat.le_refl _)]
      have e2 : sY 64 (msg.drop (64 * j)) = some (aCG msg j) := by unfold sY; rw [if_pos (by simp; omega)]; rfl
      simp only [e1, e2, c1, jT c2, Option.bind_some, i1 (show j ≤ 100000 by omega)]
      obtain ⟨i1', i2'⟩ := aGs m (j + 1) _ (by omega) (by omega) c2
      have er : aAn N msg st j (msg.length / 64 - j) = aAn N msg (cmp N st (aCG msg j)) (j + 1) (msg.length / 64 - (j + 1)) := by
        unfold aAn
        rw [show msg.length / 64 - j = (msg.length / 64 - (j + 1)) + 1 by omega, List.range'_succ, List.foldl_cons]
      rw [er]
      exact ⟨i1', i2'⟩
    · rw [dF h, show msg.length / 64 - j = 0 by omega]
      exact ⟨rfl, hst⟩
end
def aIB (st : List Int) (i : Nat) : Int := IntKind.u8.wrap ((st.getD (i / 4) 0).fdiv (2 ^ (24 - 8 * (i % 4))))
def aDw (st : List Int) : List Int := (List.range 32).map (aIB st)
theorem aHi (st : List Int) : (aDw st).length = 32 := by simp [aDw]
theorem aKl (st : List Int) : Byt (aDw st) := by
  intro x hx
  simp only [aDw, List.mem_map] at hx
  obtain ⟨i, _, rfl⟩ := hx
  exact aCl _
theorem aFK (g : Nat → Int) (w j : Nat) (hj : j < w) : ((List.range j).map g ++ List.replicate (w - j) 0).set j (g j) = (List.range (j + 1)).map g ++ List.replicate (w - (j + 1)) 0 := by
  rw [List.set_append_right _ _ (by simp), show w - j = (w - (j + 1)) + 1 by omega, List.replicate_succ, List.range_succ, List.map_append, List.append_assoc]
  simp
theorem aMn (a : Int) (s : Nat) (h : s ≤ 32) : shr .u32 a (s : Int) = some (a.fdiv (2 ^ s)) := by
  unfold shr
  rw [if_neg (by omega), Int.toNat_natCast, show min s IntKind.u32.bits = s from Nat.min_eq_left h]
theorem aMH {st : List Int} (hst : st.length = 8) {i : Nat} (h : i < 8) : cX 8 st (i : Int) = some (st.getD i 0) := by
  have : i < st.length := by omega
  rw [fQ h this]; simp [this]
section
variable (N : Nat) (hN : 70000 ≤ N) (st : List Int) (hst : st.length = 8)
include hN hst
theorem aGn : ∀ (m j : Nat), 32 - j < m → j ≤ 32 → pX N st m (j : Int) ((List.range j).map (aIB st) ++ List.replicate (32 - j) 0) = some (aDw st)
  | 0, j, hm, _ => by omega
  | m + 1, j, hm, hj => by
    rw [pX]
    by_cases h : j < 32
    · rw [show decide ((j : Int) < 32) = true from decide_eq_true (by omega), if_pos rfl, show (4 : Int) = ((4 : Nat) : Int) from rfl, z5, zJ, fA (a := ((j / 4 : Nat) : Int)) (by omega) (by omega), aMH hst (by omega)]
      rw [fA (a := ((j % 4 : Nat) : Int) * 8) (by omega) (by omega), fA (a := 24 - ((j % 4 : Nat) : Int) * 8) (by omega) (by omega), show 24 - ((j % 4 : Nat) : Int) * 8 = ((24 - 8 * (j % 4) : Nat) : Int) by omega]
      simp only [Option.bind_some]
      rw [aMn _ _ (by omega), fQ h (by simp; omega)]
      simp only [Option.bind_some, Int.toNat_natCast, i1 (show j ≤ 100000 by omega)]
      have := aFK (aIB st) 32 j h
      rw [show IntKind.u8.wrap ((st.getD (j / 4) 0).fdiv (2 ^ (24 - 8 * (j % 4)))) = aIB st j from rfl, this]
      exact aGn m (j + 1) (by omega) (by omega)
    · obtain rfl : j = 32 := by omega
      rw [show decide (((32 : Nat) : Int) < 32) = false from rfl]
      simp [aDw]
end
def sha256 (N : Nat) (b : List Int) : List Int := aDw (aAn N (b ++ xN b.length) xP 0 ((b ++ xN b.length).length / 64))
theorem oD (N : Nat) (b : List Int) : (sha256 N b).length = 32 := aHi _
theorem pV (N : Nat) (b : List Int) : Byt (sha256 N b) := aKl _
theorem aDV (N : Nat) (hN : 70000 ≤ N) (b : List Int) (hb : Byt b) (hl : b.length ≤ 1000000) : t9 N b = some (sha256 N b) := by
  have hz : zer b.length < 64 := Nat.mod_lt _ (by omega)
  have hpl := aKg b.length
  have hmb : Byt (b ++ xN b.length) := hb.append (aKd _)
  have hml : (b ++ xN b.length).length ≤ 2000000 := by rw [List.length_append]; omega
  obtain ⟨s1, s2⟩ := aGs N hN _ hmb hml N 0 xP (by omega) (by omega) rfl
  rw [show ((0 : Nat) : Int) = 0 from rfl, Nat.sub_zero] at s1
  rw [Nat.sub_zero] at s2
  have hw : IntKind.u64.wrap (b.length : Int) = (b.length : Int) := aCt (by omega) (by omega)
  have o := aGn N hN (aAn N (b ++ xN b.length) xP 0 ((b ++ xN b.length).length / 64)) s2 N 0 (by omega) (by omega)
  simp only [List.range_zero, List.map_nil, List.nil_append, Nat.sub_zero] at o
  rw [show ((0 : Nat) : Int) = 0 from rfl] at o
  simp only [t9, hw, aMM N hN b.length (by omega), Option.bind_some]
  rw [aLD N hN [b, xN b.length] (by simp) (by simp; omega)]
  simp only [Option.bind_some, List.flatten_cons, List.flatten_nil, List.append_nil, s1, yC, o, yO, jT (aHi _)]
  rfl
theorem aHJ (s : ByteArray) : Byt (iB s) := by
  intro x hx
  unfold iB at hx
  simp only [List.mem_map] at hx
  obtain ⟨b, _, rfl⟩ := hx
  have := b.toNat_lt
  omega
def aCn (N : Nat) (tag : ByteArray) (b : List Int) : List Int := sha256 N (sha256 N (iB tag) ++ (sha256 N (iB tag) ++ b))
theorem aBP (N : Nat) (tag : ByteArray) (b : List Int) : (aCn N tag b).length = 32 := oD _ _
theorem aIK (N : Nat) (tag : ByteArray) (b : List Int) : Byt (aCn N tag b) := pV _ _
theorem aFD (N : Nat) (hN : 70000 ≤ N) (tag : ByteArray) (ht : tag.size ≤ 1000) (b : List Int) (hb : Byt b) (hl : b.length ≤ 900000) : sJ N tag b = some (aCn N tag b) := by
  have hlim := p9
  have hs : stb tag = some (iB tag) := by unfold stb; rw [if_pos (by omega)]
  have s1 := aDV N hN (iB tag) (aHJ tag) (by rw [wR]; omega)
  have l1 := oD N (iB tag)
  have t1 := aDV N hN (sha256 N (iB tag) ++ (sha256 N (iB tag) ++ b)) ((pV _ _).append ((pV _ _).append hb)) (by simp only [List.length_append, l1]; omega)
  simp only [sJ, hs, s1, Option.bind_some, jT l1]
  rw [aLD N hN _ (by simp) (by simp [l1]; omega)]
  simp only [Option.bind_some, List.flatten_cons, List.flatten_nil, List.append_nil, t1, jT (oD N _)]
  rfl
end Go.Proofs.YtagblcjgjlihaaaDoor
set_option linter.unusedSimpArgs false
set_option linter.unusedVariables false
set_option linter.unusedSectionVars false
set_option maxRecDepth 4000
namespace Go.Proofs.YtagblcjgjlihaaaDoor
open Go Go.Vm
theorem pK (w : Nat) (v : Int) : Byt (uZ w v) := by
  intro x hx
  simp only [uZ, List.mem_map] at hx
  obtain ⟨i, _, rfl⟩ := hx
  exact aCl _
theorem aLa (n : Nat) : Byt (szB n) := by
  unfold szB
  split
  · exact pK _ _
  · split
    · intro x hx
      rcases List.mem_cons.1 hx with rfl | hx
      · omega
      · exact pK _ _ x hx
    · intro x hx
      rcases List.mem_cons.1 hx with rfl | hx
      · omega
      · exact pK _ _ x hx
theorem aDa {α : Type} {g : α → List Int} {l : List α} (h : ∀ x ∈ l, Byt (g x)) : Byt (l.flatMap g) := by
  intro y hy
  obtain ⟨x, hx, hy⟩ := List.mem_flatMap.1 hy
  exact h x hx y hy
def ptB (x : aO) : List Int := x.Prev.Tx ++ rO x.Prev.Index
def sqB (x : aO) : List Int := rO x.Sequence
structure aIx (ins : List aO) (outs : List aK) : Prop where
  tx : ∀ x ∈ ins, Byt x.Prev.Tx
  scr : ∀ o ∈ outs, Byt o.Script
theorem aGJ {o : aK} (h : Byt o.Script) : Byt (pG o) := (pK _ _).append ((aLa _).append h)
section
variable (N : Nat) (hN : 70000 ≤ N)
include hN
theorem aFA (v : Int) : lW N v = some (rO v) := by
  simp only [lW, aFh N hN [] v (by simp), Option.bind_some, List.nil_append]
theorem aL9 (l : List (List Int)) (hn : l.length ≤ 1000) (ht : l.flatten.length ≤ 50000000) : rL N l = some l.flatten := by
  have := aBA (f := lP N l) l hn ht (fun m j acc hj hB => by
    rw [lP, dT hj, if_pos rfl, cY l hj, Option.bind_some, oJ (by omega)]
    simp only [Option.bind_some, i1 (show j ≤ 100000 by omega)]) (fun m j acc hj => by rw [lP, dF (by omega)]; rfl) N hN
  unfold rL
  rw [this]; rfl
theorem aF0 (o : aK) (h : o.Script.length ≤ 600) : pA N o.Value o.Script = some (pG o) := by
  have := sU o.Script.length
  simp only [pA, aMe N hN [] _ (show ([] : List Int).length ≤ 40000000 by simp), aGq N hN [] _ (show o.Script.length ≤ 1000000 by omega) (by simp), Option.bind_some, List.nil_append]
  rw [aL9 N hN _ (by simp) (by simp [aBH]; omega)]
  simp only [Option.bind_some, List.flatten_cons, List.flatten_nil, List.append_nil, pG]
theorem aCc (b : List Int) (hb : Byt b) (hl : b.length ≤ 1000000) : mX N b = some (sha256 N b) := by
  simp only [mX, aDV N hN b hb hl, Option.bind_some, jT (oD N b)]
variable {v : Int} {ins : List aO} {outs : List aK} {lock : Int} (K : zE ins outs)
include K
theorem aJ5 : uY N v ins outs lock = some (aAT v ins outs lock) := by
  simp only [uY, aAu, aId N hN K, Option.bind_some]
  cases aAT v ins outs lock
  · rfl
  · simp only [Bool.not_true, Bool.false_eq_true, if_false, aFx N hN K, Option.bind_some]; rfl
variable {i oV : Int} {oS : List Int}
theorem mL6 : ∀ (m j : Nat) (a b : List Int), ins.length - j < m → j ≤ ins.length → a.length ≤ 36 * j → b.length ≤ 4 * j → jI N v ins outs lock i oV oS m (j : Int) a b = some (a ++ (ins.drop j).flatMap ptB, b ++ (ins.drop j).flatMap sqB)
  | 0, j, a, b, hm, _, _, _ => by omega
  | m + 1, j, a, b, hm, hj, ha, hb => by
    have hn := K.ni
    rw [jI]
    by_cases h : j < ins.length
    · have ht := K.tx _ (List.getElem_mem h)
      rw [dT h, if_pos rfl, cY ins h]
      simp only [Option.bind_some, aJH N hN _ _ ht, aFA N hN]
      rw [oJ (by simp only [List.length_append, iE]; omega)]
      simp only [Option.bind_some]
      rw [oJ (by rw [iE]; omega)]
      simp only [Option.bind_some, i1 (show j ≤ 100000 by omega)]
      rw [mL6 m (j + 1) _ _ (by omega) (by omega) (by simp only [List.length_append, iE]; omega) (by simp only [List.length_append, iE]; omega), List.drop_eq_getElem_cons h, List.flatMap_cons, List.flatMap_cons]
      simp only [ptB, sqB, List.append_assoc]
    · rw [dF h, List.drop_eq_nil_of_le (by omega)]; simp
theorem mL5 (p q : List Int) : gM N v ins outs lock i oV oS p q N 0 [] = some (outs.flatMap pG) := by
  have hn := K.no
  have hl := aBp K
  have := rP (f := gM N v ins outs lock i oV oS p q) (xs := outs) (g := pG) (B := 200000) (by omega) (fun m j acc hj hB => by
    have ht := K.scr _ (List.getElem_mem hj)
    rw [gM, dT hj, if_pos rfl, cY outs hj]
    simp only [Option.bind_some, aF0 N hN _ ht]
    rw [oJ (by omega)]
    simp only [Option.bind_some, i1 (show j ≤ 100000 by omega)]) (fun m j acc hj => by rw [gM, dF (by omega)]; rfl) N 0 [] (by omega) (by omega) (by rw [List.drop_zero, List.length_nil]; omega)
  simpa using this
def aDm (N : Nat) (v : Int) (ins : List aO) (outs : List aK) (lock i oV : Int) (oS : List Int) : List Int :=
  rO v ++ (sha256 N (ins.flatMap ptB) ++ (sha256 N (ins.flatMap sqB) ++ (sha256 N (outs.flatMap pG) ++ (rO lock ++ (rO (IntKind.u32.wrap i) ++ pG ⟨oV, oS⟩)))))
def aIu : ByteArray := ⟨#[108, 105, 103, 104, 116, 99, 108, 105, 101, 110, 116, 47, 115, 112, 101, 110, 100]⟩
def aEC : List Int := [0, 0, 0, 0, 0, 0, 0, 0, 0, 0, 0, 0, 0, 0, 0, 0, 0, 0, 0, 0, 0, 0, 0, 0, 0, 0, 0, 0, 0, 0, 0, 0]
def y9 (N : Nat) (v : Int) (ins : List aO) (outs : List aK) (lock i oV : Int) (oS : List Int) : List Int × Int :=
  if aAT v ins outs lock && !decide (oV < 0) && !decide (520 < oS.length) then
    if decide (i < 0) || decide ((ins.length : Int) ≤ i) then (aEC, 5) else (aCn N aIu (aDm N v ins outs lock i oV oS), 0)
  else (aEC, 4)
omit hN K in
theorem aKv : (y9 N v ins outs lock i oV oS).1.length = 32 := by
  unfold y9
  split
  · split
    · rfl
    · exact aBP _ _ _
  · rfl
variable (B : aIx ins outs)
include B
omit hN in
theorem aKF : Byt (ins.flatMap ptB) ∧ (ins.flatMap ptB).length ≤ 2520 ∧ Byt (ins.flatMap sqB) ∧ (ins.flatMap sqB).length ≤ 280 ∧ Byt (outs.flatMap pG) ∧ (outs.flatMap pG).length ≤ 42910 := by
  have h1 := uE (g := ptB) (c := 36) ins (fun x hx => by simp [ptB, iE, K.tx x hx])
  have h2 := uE (g := sqB) (c := 4) ins (fun x hx => by simp [sqB, iE])
  have hn := K.ni
  have := Nat.mul_le_mul_right 36 hn
  have := Nat.mul_le_mul_right 4 hn
  exact ⟨aDa fun x hx => (B.tx x hx).append (pK _ _), by omega, aDa fun x hx => pK _ _, by omega, aDa fun o ho => aGJ (B.scr o ho), aBp K⟩
theorem aKW (hoS : oS.length ≤ 520) (hob : Byt oS) : Byt (aDm N v ins outs lock i oV oS) ∧ (aDm N v ins outs lock i oV oS).length ≤ 900000 := by
  have h2 := aFb (o := ⟨oV, oS⟩) (show oS.length ≤ 600 by omega)
  refine ⟨(pK _ _).append ((pV _ _).append ((pV _ _).append ((pV _ _).append ((pK _ _).append ((pK _ _).append (aGJ hob)))))), ?_⟩
  simp only [aDm, List.length_append, iE, oD]
  omega
theorem aIW (hob : Byt oS) : qE N v ins outs lock i oV oS = some (y9 N v ins outs lock i oV oS) := by
  obtain ⟨p1, p2, p3, p4, p5, p6⟩ := aKF K B
  unfold qE y9
  rw [aJ5 N hN K]
  cases hf : aAT v ins outs lock with
  | false => rfl
  | true =>
    simp only [Option.bind_some, Bool.not_true, Bool.false_eq_true, if_false, Bool.true_and]
    cases h0 : decide (oV < 0) with
    | true => rfl
    | false =>
      simp only [Bool.false_eq_true, if_false, Bool.not_false, Bool.true_and]
      rw [show (520 : Int) = ((520 : Nat) : Int) from rfl, nle, show decide (520 < oS.length) = !decide (oS.length ≤ 520) by rw [← nle]; congr 1; simp; omega]
      cases h1 : decide (oS.length ≤ 520) with
      | false => rfl
      | true =>
        have hoS : oS.length ≤ 520 := by simpa using h1
        obtain ⟨q1, q2⟩ := aKW N hN K B (v := v) (lock := lock) (i := i) (oV := oV) hoS hob
        simp only [Bool.not_true, Bool.not_false, if_true, k7, Bool.false_eq_true, if_false]
        have main : k4 N v ins outs lock i oV oS false = some (aCn N aIu (aDm N v ins outs lock i oV oS), 0) := by
          have e6 := mL6 N hN K (v := v) (lock := lock) (i := i) (oV := oV) (oS := oS) N 0 [] [] (by have := K.ni; omega) (by omega) (by simp) (by simp)
          rw [show ((0 : Nat) : Int) = 0 from rfl, List.drop_zero, List.nil_append, List.nil_append] at e6
          have e7 : rL N [rO v, sha256 N (ins.flatMap ptB), sha256 N (ins.flatMap sqB), sha256 N (outs.flatMap pG), rO lock, rO (IntKind.u32.wrap i), pG ⟨oV, oS⟩] = some (aDm N v ins outs lock i oV oS) := by
            have h2 := aFb (o := ⟨oV, oS⟩) (show oS.length ≤ 600 by omega)
            rw [aL9 N hN _ (by simp) (by simp [iE, oD]; omega)]
            simp only [List.flatten_cons, List.flatten_nil, List.append_nil, aDm]
          have e8 := aFD N hN aIu (by decide) _ q1 q2
          simp only [k4, Bool.false_eq_true, if_false, e6, Option.bind_some, pP, mL5 N hN K, pY, aFA N hN, aCc N hN _ p1 (by omega), aCc N hN _ p3 (by omega), aCc N hN _ p5 (by omega), aF0 N hN ⟨oV, oS⟩ (show oS.length ≤ 600 by omega), e7]
          rw [show (⟨#[108, 105, 103, 104, 116, 99, 108, 105, 101, 110, 116, 47, 115, 112, 101, 110, 100]⟩ : ByteArray) = aIu from rfl, e8]
          simp only [Option.bind_some, jT (aBP N _ _)]
        cases hi : decide (i < 0) with
        | true => rfl
        | false =>
          simp only [Bool.false_eq_true, if_false, Bool.false_or]
          cases hi2 : decide ((ins.length : Int) ≤ i) with
          | true => rfl
          | false => simp only [Bool.false_eq_true, if_false, main]
end
end Go.Proofs.YtagblcjgjlihaaaDoor
set_option linter.unusedSimpArgs false
set_option linter.unusedVariables false
set_option linter.unusedSectionVars false
namespace Go.Proofs.YtagblcjgjlihaaaDoor
open Go Go.Vm
def w4 (a b c d : Nat) : List Int := [(a : Int), (b : Int), (c : Int), (d : Int)]
def vl (a b c d : Nat) : Nat := a + 18446744073709551616 * b + 340282366920938463463374607431768211456 * c + 6277101735386680763835789423207666416102355444464034512896 * d
def U (n : Nat) : List Int := w4 (n % 18446744073709551616) (n / 18446744073709551616 % 18446744073709551616) (n / 340282366920938463463374607431768211456 % 18446744073709551616) (n / 6277101735386680763835789423207666416102355444464034512896 % 18446744073709551616)
theorem aMj (n : Nat) : (U n).length = 4 := rfl
theorem aE0 {a b c d : Nat} (ha : a < 18446744073709551616) (hb : b < 18446744073709551616) (hc : c < 18446744073709551616) (hd : d < 18446744073709551616) : w4 a b c d = U (vl a b c d) := by
  unfold U vl
  have h0 : (a + 18446744073709551616 * b + 340282366920938463463374607431768211456 * c + 6277101735386680763835789423207666416102355444464034512896 * d) % 18446744073709551616 = a := by omega
  have h1 : (a + 18446744073709551616 * b + 340282366920938463463374607431768211456 * c + 6277101735386680763835789423207666416102355444464034512896 * d) / 18446744073709551616 % 18446744073709551616 = b := by omega
  have h2 : (a + 18446744073709551616 * b + 340282366920938463463374607431768211456 * c + 6277101735386680763835789423207666416102355444464034512896 * d) / 340282366920938463463374607431768211456 % 18446744073709551616 = c := by omega
  have h3 : (a + 18446744073709551616 * b + 340282366920938463463374607431768211456 * c + 6277101735386680763835789423207666416102355444464034512896 * d) / 6277101735386680763835789423207666416102355444464034512896 % 18446744073709551616 = d := by omega
  rw [h0, h1, h2, h3]
theorem aAX {n : Nat} (h : n < 115792089237316195423570985008687907853269984665640564039457584007913129639936) : ∃ a b c d, a < 18446744073709551616 ∧ b < 18446744073709551616 ∧ c < 18446744073709551616 ∧ d < 18446744073709551616 ∧ U n = w4 a b c d ∧ n = vl a b c d := by
  refine ⟨n % 18446744073709551616, n / 18446744073709551616 % 18446744073709551616, n / 340282366920938463463374607431768211456 % 18446744073709551616, n / 6277101735386680763835789423207666416102355444464034512896 % 18446744073709551616, by omega, by omega, by omega, by omega, rfl, ?_⟩
  unfold vl
  omega
theorem aEt {a b c d : Nat} (ha : a < 18446744073709551616) (hb : b < 18446744073709551616) (hc : c < 18446744073709551616) (hd : d < 18446744073709551616) : vl a b c d < 115792089237316195423570985008687907853269984665640564039457584007913129639936 := by unfold vl; omega
def Wd (l : List Int) : Prop := l.length = 4 ∧ ∀ x ∈ l, 0 ≤ x ∧ x < 18446744073709551616
theorem Wd.ex {l : List Int} (h : Wd l) : ∃ n, n < 115792089237316195423570985008687907853269984665640564039457584007913129639936 ∧ l = U n := by
  obtain ⟨hl, hx⟩ := h
  match l, hl, hx with
  | [a, b, c, d], _, hx =>
    have ha := hx a (by simp)
    have hb := hx b (by simp)
    have hc := hx c (by simp)
    have hd := hx d (by simp)
    refine ⟨vl a.toNat b.toNat c.toNat d.toNat, aEt (by omega) (by omega) (by omega) (by omega), ?_⟩
    rw [← aE0 (by omega) (by omega) (by omega) (by omega)]
    unfold w4
    rw [Int.toNat_of_nonneg ha.1, Int.toNat_of_nonneg hb.1, Int.toNat_of_nonneg hc.1, Int.toNat_of_nonneg hd.1]
theorem aMD {a b : Nat} (ha : a < 115792089237316195423570985008687907853269984665640564039457584007913129639936) (hb : b < 115792089237316195423570985008687907853269984665640564039457584007913129639936) (h : U a = U b) : a = b := by
  simp only [U, w4, List.cons.injEq, and_true] at h
  omega
theorem aIG {a b : Nat} (ha : a < 115792089237316195423570985008687907853269984665640564039457584007913129639936) (hb : b < 115792089237316195423570985008687907853269984665640564039457584007913129639936) : (U a == U b) = decide (a = b) := by
  by_cases h : a = b
  · subst h; simp
  · rw [decide_eq_false h]
    apply beq_eq_false_iff_ne.2
    exact fun e => h (aMD ha hb e)
theorem aEc : U 0 = [0, 0, 0, 0] := rfl
theorem a40 (a b c d : Nat) : cX 4 (w4 a b c d) 0 = some (a : Int) := rfl
theorem a41 (a b c d : Nat) : cX 4 (w4 a b c d) 1 = some (b : Int) := rfl
theorem a42 (a b c d : Nat) : cX 4 (w4 a b c d) 2 = some (c : Int) := rfl
theorem a43 (a b c d : Nat) : cX 4 (w4 a b c d) 3 = some (d : Int) := rfl
theorem kI (n : Nat) : b9 4 (U n) = some (U n) := rfl
theorem q40 (a b c d : Int) : cX 4 [a, b, c, d] 0 = some a := rfl
theorem q41 (a b c d : Int) : cX 4 [a, b, c, d] 1 = some b := rfl
theorem q42 (a b c d : Int) : cX 4 [a, b, c, d] 2 = some c := rfl
theorem q43 (a b c d : Int) : cX 4 [a, b, c, d] 3 = some d := rfl
theorem t40 (a b c d x : Int) : [a, b, c, d].set (Int.toNat 0) x = [x, b, c, d] := rfl
theorem t41 (a b c d x : Int) : [a, b, c, d].set (Int.toNat 1) x = [a, x, c, d] := rfl
theorem t42 (a b c d x : Int) : [a, b, c, d].set (Int.toNat 2) x = [a, b, x, d] := rfl
theorem t43 (a b c d x : Int) : [a, b, c, d].set (Int.toNat 3) x = [a, b, c, x] := rfl
theorem r40 : List.replicate 4 (0 : Int) = [0, 0, 0, 0] := rfl
theorem aL5 (a b c d : Nat) : w4 a b c d = [(a : Int), (b : Int), (c : Int), (d : Int)] := rfl
theorem d04 : decide ((0 : Int) < 4) = true := rfl
theorem d14 : decide ((1 : Int) < 4) = true := rfl
theorem d24 : decide ((2 : Int) < 4) = true := rfl
theorem d34 : decide ((3 : Int) < 4) = true := rfl
theorem d44 : decide ((4 : Int) < 4) = false := rfl
theorem i01 : IntKind.i64.wrap (0 + 1) = 1 := by decide +kernel
theorem i12 : IntKind.i64.wrap (1 + 1) = 2 := by decide +kernel
theorem i23 : IntKind.i64.wrap (2 + 1) = 3 := by decide +kernel
theorem i34 : IntKind.i64.wrap (3 + 1) = 4 := by decide +kernel
theorem i32 : IntKind.i64.wrap (3 - 1) = 2 := by decide +kernel
theorem i21 : IntKind.i64.wrap (2 - 1) = 1 := by decide +kernel
theorem i10 : IntKind.i64.wrap (1 - 1) = 0 := by decide +kernel
theorem i0m : IntKind.i64.wrap (0 - 1) = -1 := by decide +kernel
theorem tR {α : Type} (f : Nat → α) {N : Nat} (h : 70000 ≤ N) : ∃ m, f N = f (m + 1 + 1 + 1 + 1 + 1) := ⟨N - 5, by congr 1; omega⟩
theorem vU {x y c : Nat} (hx : x < 18446744073709551616) (hy : y < 18446744073709551616) (hc : c ≤ 1) : ∃ s k : Nat, tM (x : Int) (y : Int) (c : Int) = some ((s : Int), (k : Int)) ∧ x + y + c = s + 18446744073709551616 * k ∧ s < 18446744073709551616 ∧ k ≤ 1 := by
  refine ⟨(x + y + c) % 18446744073709551616, (x + y + c) / 18446744073709551616, ?_, by omega, by omega, by omega⟩
  unfold tM
  simp only [Int.toNat_natCast]
  rw [if_pos hc]
theorem aBQ {x y c : Nat} (hx : x < 18446744073709551616) (hy : y < 18446744073709551616) (hc : c ≤ 1) : ∃ s k : Nat, aCL (x : Int) (y : Int) (c : Int) = some ((s : Int), (k : Int)) ∧ x + 18446744073709551616 * k = y + c + s ∧ s < 18446744073709551616 ∧ k ≤ 1 := by
  refine ⟨(x + 18446744073709551616 - y - c) % 18446744073709551616, if x < y + c then 1 else 0, ?_, ?_, by omega, ?_⟩
  · unfold aCL
    simp only [Int.toNat_natCast]
    rw [if_pos hc]
  · split <;> omega
  · split <;> omega
theorem aLV {N : Nat} (hN : 70000 ≤ N) {a0 a1 a2 a3 b0 b1 b2 b3 : Nat} (ha0 : a0 < 18446744073709551616) (ha1 : a1 < 18446744073709551616) (ha2 : a2 < 18446744073709551616) (ha3 : a3 < 18446744073709551616) (hb0 : b0 < 18446744073709551616) (hb1 : b1 < 18446744073709551616) (hb2 : b2 < 18446744073709551616) (hb3 : b3 < 18446744073709551616) :
    ∃ s0 s1 s2 s3 k : Nat, vV N (w4 a0 a1 a2 a3) (w4 b0 b1 b2 b3) = some (w4 s0 s1 s2 s3, ((k : Int) != 0)) ∧ vl a0 a1 a2 a3 + vl b0 b1 b2 b3 = vl s0 s1 s2 s3 + 115792089237316195423570985008687907853269984665640564039457584007913129639936 * k ∧ s0 < 18446744073709551616 ∧ s1 < 18446744073709551616 ∧ s2 < 18446744073709551616 ∧ s3 < 18446744073709551616 ∧ k ≤ 1 := by
  obtain ⟨s0, k0, e0, f0, g0, l0⟩ := vU ha0 hb0 (Nat.zero_le 1)
  obtain ⟨s1, k1, e1, f1, g1, l1⟩ := vU ha1 hb1 l0
  obtain ⟨s2, k2, e2, f2, g2, l2⟩ := vU ha2 hb2 l1
  obtain ⟨s3, k3, e3, f3, g3, l3⟩ := vU ha3 hb3 l2
  refine ⟨s0, s1, s2, s3, k3, ?_, by unfold vl; omega, g0, g1, g2, g3, l3⟩
  obtain ⟨m, hm⟩ := tR (fun q => oL N (w4 a0 a1 a2 a3) (w4 b0 b1 b2 b3) q 0 0 (List.replicate 4 0)) hN
  unfold vV
  rw [hm]
  have e0' : tM (a0 : Int) (b0 : Int) 0 = some ((s0 : Int), (k0 : Int)) := e0
  simp only [oL, hH, a40, a41, a42, a43, q40, q41, q42, q43, t40, t41, t42, t43, r40, i01, i12, i23, i34, d04, d14, d24, d34, d44, if_true, Bool.false_eq_true, if_false, Option.bind_some, e0', e1, e2, e3, xD]
  rfl
theorem aMw {N : Nat} (hN : 70000 ≤ N) {a b : Nat} (ha : a < 115792089237316195423570985008687907853269984665640564039457584007913129639936) (hb : b < 115792089237316195423570985008687907853269984665640564039457584007913129639936) : vV N (U a) (U b) = some (U ((a + b) % 115792089237316195423570985008687907853269984665640564039457584007913129639936), decide (115792089237316195423570985008687907853269984665640564039457584007913129639936 ≤ a + b)) := by
  obtain ⟨a0, a1, a2, a3, x0, x1, x2, x3, ea, va⟩ := aAX ha
  obtain ⟨b0, b1, b2, b3, y0, y1, y2, y3, eb, vb⟩ := aAX hb
  obtain ⟨s0, s1, s2, s3, k, h1, h2, z0, z1, z2, z3, hk⟩ := aLV hN x0 x1 x2 x3 y0 y1 y2 y3
  have hv := aEt z0 z1 z2 z3
  rw [ea, eb, h1, aE0 z0 z1 z2 z3, show (a + b) % 115792089237316195423570985008687907853269984665640564039457584007913129639936 = vl s0 s1 s2 s3 by omega]
  congr 2
  by_cases h : 115792089237316195423570985008687907853269984665640564039457584007913129639936 ≤ a + b
  · rw [decide_eq_true h, show k = 1 by omega]; rfl
  · rw [decide_eq_false h, show k = 0 by omega]; rfl
theorem aLw {N : Nat} (hN : 70000 ≤ N) {a0 a1 a2 a3 b0 b1 b2 b3 : Nat} (ha0 : a0 < 18446744073709551616) (ha1 : a1 < 18446744073709551616) (ha2 : a2 < 18446744073709551616) (ha3 : a3 < 18446744073709551616) (hb0 : b0 < 18446744073709551616) (hb1 : b1 < 18446744073709551616) (hb2 : b2 < 18446744073709551616) (hb3 : b3 < 18446744073709551616) :
    ∃ s0 s1 s2 s3 k : Nat, rG N (w4 a0 a1 a2 a3) (w4 b0 b1 b2 b3) = some (w4 s0 s1 s2 s3, ((k : Int) != 0)) ∧ vl a0 a1 a2 a3 + 115792089237316195423570985008687907853269984665640564039457584007913129639936 * k = vl b0 b1 b2 b3 + vl s0 s1 s2 s3 ∧ s0 < 18446744073709551616 ∧ s1 < 18446744073709551616 ∧ s2 < 18446744073709551616 ∧ s3 < 18446744073709551616 ∧ k ≤ 1 := by
  obtain ⟨s0, k0, e0, f0, g0, l0⟩ := aBQ ha0 hb0 (Nat.zero_le 1)
  obtain ⟨s1, k1, e1, f1, g1, l1⟩ := aBQ ha1 hb1 l0
  obtain ⟨s2, k2, e2, f2, g2, l2⟩ := aBQ ha2 hb2 l1
  obtain ⟨s3, k3, e3, f3, g3, l3⟩ := aBQ ha3 hb3 l2
  refine ⟨s0, s1, s2, s3, k3, ?_, by unfold vl; omega, g0, g1, g2, g3, l3⟩
  obtain ⟨m, hm⟩ := tR (fun q => oH N (w4 a0 a1 a2 a3) (w4 b0 b1 b2 b3) q 0 0 (List.replicate 4 0)) hN
  unfold rG
  rw [hm]
  have e0' : aCL (a0 : Int) (b0 : Int) 0 = some ((s0 : Int), (k0 : Int)) := e0
  simp only [oH, uO, a40, a41, a42, a43, q40, q41, q42, q43, t40, t41, t42, t43, r40, i01, i12, i23, i34, d04, d14, d24, d34, d44, if_true, Bool.false_eq_true, if_false, Option.bind_some, e0', e1, e2, e3, w8]
  rfl
theorem aGe {N : Nat} (hN : 70000 ≤ N) {a b : Nat} (ha : a < 115792089237316195423570985008687907853269984665640564039457584007913129639936) (hb : b < 115792089237316195423570985008687907853269984665640564039457584007913129639936) : rG N (U a) (U b) = some (U ((a + 115792089237316195423570985008687907853269984665640564039457584007913129639936 - b) % 115792089237316195423570985008687907853269984665640564039457584007913129639936), decide (a < b)) := by
  obtain ⟨a0, a1, a2, a3, x0, x1, x2, x3, ea, va⟩ := aAX ha
  obtain ⟨b0, b1, b2, b3, y0, y1, y2, y3, eb, vb⟩ := aAX hb
  obtain ⟨s0, s1, s2, s3, k, h1, h2, z0, z1, z2, z3, hk⟩ := aLw hN x0 x1 x2 x3 y0 y1 y2 y3
  have hv := aEt z0 z1 z2 z3
  rw [ea, eb, h1, aE0 z0 z1 z2 z3, show (a + 115792089237316195423570985008687907853269984665640564039457584007913129639936 - b) % 115792089237316195423570985008687907853269984665640564039457584007913129639936 = vl s0 s1 s2 s3 by omega]
  congr 2
  by_cases h : a < b
  · rw [decide_eq_true h, show k = 1 by omega]; rfl
  · rw [decide_eq_false h, show k = 0 by omega]; rfl
theorem aCO {N : Nat} (hN : 70000 ≤ N) {a b : Nat} (ha : a < 115792089237316195423570985008687907853269984665640564039457584007913129639936) (hb : b < 115792089237316195423570985008687907853269984665640564039457584007913129639936) : oN N (U a) (U b) = some (if a < b then -1 else if b < a then 1 else 0) := by
  obtain ⟨a0, a1, a2, a3, x0, x1, x2, x3, ea, va⟩ := aAX ha
  obtain ⟨b0, b1, b2, b3, y0, y1, y2, y3, eb, vb⟩ := aAX hb
  rw [ea, eb]
  obtain ⟨m, hm⟩ := tR (fun q => oE N (w4 a0 a1 a2 a3) (w4 b0 b1 b2 b3) q 3) hN
  unfold oN
  rw [hm]
  unfold vl at va vb
  simp only [oE, a40, a41, a42, a43, i32, i21, i10, i0m, show decide ((0 : Int) ≤ 3) = true from rfl, show decide ((0 : Int) ≤ 2) = true from rfl, show decide ((0 : Int) ≤ 1) = true from rfl, show decide ((0 : Int) ≤ 0) = true from rfl, show decide ((0 : Int) ≤ -1) = false from rfl, if_true, Bool.false_eq_true, if_false, Option.bind_some, w9, decide_eq_true_eq, Int.ofNat_lt]
  by_cases c3 : a3 < b3
  · rw [if_pos c3, if_pos (by omega)]; rfl
  · rw [if_neg c3]
    by_cases d3 : b3 < a3
    · rw [if_pos d3, if_neg (by omega), if_pos (by omega)]; rfl
    · rw [if_neg d3]
      by_cases c2 : a2 < b2
      · rw [if_pos c2, if_pos (by omega)]; rfl
      · rw [if_neg c2]
        by_cases d2 : b2 < a2
        · rw [if_pos d2, if_neg (by omega), if_pos (by omega)]; rfl
        · rw [if_neg d2]
          by_cases c1 : a1 < b1
          · rw [if_pos c1, if_pos (by omega)]; rfl
          · rw [if_neg c1]
            by_cases d1 : b1 < a1
            · rw [if_pos d1, if_neg (by omega), if_pos (by omega)]; rfl
            · rw [if_neg d1]
              by_cases c0 : a0 < b0
              · rw [if_pos c0, if_pos (by omega)]; rfl
              · rw [if_neg c0]
                by_cases d0 : b0 < a0
                · rw [if_pos d0, if_neg (by omega), if_pos (by omega)]; rfl
                · rw [if_neg d0, if_neg (by omega), if_neg (by omega)]; rfl
theorem aEn {x l : Nat} (hx : x < 18446744073709551616) (hl : l ≤ 1) : ∃ y s k : Nat, shl .u64 (x : Int) 1 = some (y : Int) ∧ shr .u64 (x : Int) 63 = some (k : Int) ∧ bits .or .u64 (y : Int) (l : Int) = (s : Int) ∧ 2 * x + l = s + 18446744073709551616 * k ∧ s < 18446744073709551616 ∧ k ≤ 1 := by
  have h1 : x * 2 ^ 1 % 18446744073709551616 = (x % 9223372036854775808) * 2 ^ 1 := by omega
  refine ⟨x * 2 ^ 1 % 18446744073709551616, (x % 9223372036854775808) * 2 ^ 1 + l, x / 9223372036854775808, aE2 rfl x 1, wG x 63 hx, ?_, by omega, by omega, by omega⟩
  rw [aCW rfl _ _ (show x * 2 ^ 1 % 18446744073709551616 < 2 ^ 64 by omega) (show l < 2 ^ 64 by omega), h1]
  congr 1
  rw [Nat.mul_comm, ← Nat.two_pow_add_eq_or_of_lt (show l < 2 ^ 1 by omega)]
theorem aKK {N : Nat} (hN : 70000 ≤ N) {a l : Nat} (ha : a < 115792089237316195423570985008687907853269984665640564039457584007913129639936) (hl : l ≤ 1) : ∃ k : Nat, oP N (U a) (l : Int) = some (U ((2 * a + l) % 115792089237316195423570985008687907853269984665640564039457584007913129639936), (k : Int)) ∧ k = (2 * a + l) / 115792089237316195423570985008687907853269984665640564039457584007913129639936 := by
  obtain ⟨a0, a1, a2, a3, x0, x1, x2, x3, ea, va⟩ := aAX ha
  obtain ⟨y0, s0, k0, e0, f0, g0, h0, j0, l0⟩ := aEn x0 hl
  obtain ⟨y1, s1, k1, e1, f1, g1, h1, j1, l1⟩ := aEn x1 l0
  obtain ⟨y2, s2, k2, e2, f2, g2, h2, j2, l2⟩ := aEn x2 l1
  obtain ⟨y3, s3, k3, e3, f3, g3, h3, j3, l3⟩ := aEn x3 l2
  unfold vl at va
  have hv := aEt j0 j1 j2 j3
  have hvv : 2 * a + l = vl s0 s1 s2 s3 + 115792089237316195423570985008687907853269984665640564039457584007913129639936 * k3 := by unfold vl; omega
  refine ⟨k3, ?_, by omega⟩
  rw [ea, show (2 * a + l) % 115792089237316195423570985008687907853269984665640564039457584007913129639936 = vl s0 s1 s2 s3 by omega, ← aE0 j0 j1 j2 j3]
  obtain ⟨m, hm⟩ := tR (fun q => lC N q (l : Int) 0 (w4 a0 a1 a2 a3)) hN
  unfold oP
  rw [hm]
  simp only [lC, aL5, q40, q41, q42, q43, t40, t41, t42, t43, i01, i12, i23, i34, d04, d14, d24, d34, d44, if_true, Bool.false_eq_true, if_false, Option.bind_some, e0, f0, g0, e1, f1, g1, e2, f2, g2, e3, f3, g3, sH]
  rfl
end Go.Proofs.YtagblcjgjlihaaaDoor
set_option linter.unusedSimpArgs false
set_option linter.unusedVariables false
set_option linter.unusedSectionVars false
namespace Go.Proofs.YtagblcjgjlihaaaDoor
open Go Go.Vm
theorem um {a b : Nat} (h : a * b < 18446744073709551616) : IntKind.u64.wrap ((a : Int) * (b : Int)) = ((a * b : Nat) : Int) := by rw [← Int.natCast_mul, aCt (by omega) (by omega)]
theorem up {a b : Nat} (h : a + b < 18446744073709551616) : IntKind.u64.wrap ((a : Int) + (b : Int)) = ((a + b : Nat) : Int) := by rw [← Int.natCast_add, aCt (by omega) (by omega)]
theorem aIS {x : Nat} (h : x < 18446744073709551616) : bits .and .u64 (x : Int) 4294967295 = ((x % 4294967296 : Nat) : Int) := by
  rw [show (4294967295 : Int) = ((4294967295 : Nat) : Int) from rfl, aCA (k := .u64) rfl x _ (show x < 2 ^ 64 from h) (by decide), show 4294967295 = 2 ^ 32 - 1 from rfl, Nat.and_two_pow_sub_one_eq_mod]
theorem aCs {x : Nat} (h : x < 18446744073709551616) : shr .u64 (x : Int) 32 = some ((x / 4294967296 : Nat) : Int) := wG x 32 h
theorem aKi {N x y : Nat} (hx : x < 18446744073709551616) (hy : y < 18446744073709551616) : ∃ h l : Nat, lZ N (x : Int) (y : Int) = some ((h : Int), (l : Int)) ∧ x * y = l + 18446744073709551616 * h ∧ l < 18446744073709551616 ∧ h < 18446744073709551616 := by
  have x0 : x % 4294967296 ≤ 4294967295 := by omega
  have y0 : y % 4294967296 ≤ 4294967295 := by omega
  have x1 : x / 4294967296 ≤ 4294967295 := by omega
  have y1 : y / 4294967296 ≤ 4294967295 := by omega
  have ex : x = 4294967296 * (x / 4294967296) + x % 4294967296 := by omega
  have ey : y = 4294967296 * (y / 4294967296) + y % 4294967296 := by omega
  have lo : IntKind.u64.wrap ((x : Int) * (y : Int)) = ((x * y % 18446744073709551616 : Nat) : Int) := by rw [← Int.natCast_mul, IntKind.wrap_u64]; omega
  unfold lZ
  rw [aIS hx, aIS hy, aCs hx, aCs hy, lo]
  simp only [Option.bind_some]
  generalize x / 4294967296 = u1 at *
  generalize x % 4294967296 = u0 at *
  generalize y / 4294967296 = v1 at *
  generalize y % 4294967296 = v0 at *
  have p00 := Nat.mul_le_mul x0 y0
  have p10 := Nat.mul_le_mul x1 y0
  have p01 := Nat.mul_le_mul x0 y1
  have p11 := Nat.mul_le_mul x1 y1
  have hxy : x * y = 18446744073709551616 * (u1 * v1) + 4294967296 * (u1 * v0) + 4294967296 * (u0 * v1) + u0 * v0 := by
    rw [ex, ey, Nat.add_mul, Nat.mul_add, Nat.mul_add, Nat.mul_mul_mul_comm, Nat.mul_assoc 4294967296 u1 v0, Nat.mul_left_comm u0 4294967296 v1]
    omega
  rw [um (a := u0) (b := v0) (by omega), um (a := u1) (b := v0) (by omega), um (a := u0) (b := v1) (by omega), um (a := u1) (b := v1) (by omega)]
  clear ex ey lo
  generalize u0 * v0 = q00 at *
  generalize u1 * v0 = q10 at *
  generalize u0 * v1 = q01 at *
  generalize u1 * v1 = q11 at *
  rw [aCs (x := q00) (by omega)]
  simp only [Option.bind_some]
  rw [up (a := q10) (by omega), aCs (x := q10 + q00 / 4294967296) (by omega), aIS (x := q10 + q00 / 4294967296) (by omega)]
  simp only [Option.bind_some]
  rw [up (a := (q10 + q00 / 4294967296) % 4294967296) (by omega), aCs (x := (q10 + q00 / 4294967296) % 4294967296 + q01) (by omega)]
  simp only [Option.bind_some]
  rw [up (a := q11) (by omega), up (a := q11 + (q10 + q00 / 4294967296) / 4294967296) (by omega)]
  exact ⟨_, _, rfl, by omega, by omega, by omega⟩
theorem oT {N A b w c : Nat} (hA : A < 18446744073709551616) (hb : b < 18446744073709551616) (hw : w < 18446744073709551616) (hc : c < 18446744073709551616) : ∃ h l s k s' k' d : Nat, lZ N (A : Int) (b : Int) = some ((h : Int), (l : Int)) ∧ tM (l : Int) (w : Int) 0 = some ((s : Int), (k : Int)) ∧ tM (s : Int) (c : Int) 0 = some ((s' : Int), (k' : Int)) ∧
    IntKind.u64.wrap (IntKind.u64.wrap ((h : Int) + (k : Int)) + (k' : Int)) = (d : Int) ∧ A * b + w + c = s' + 18446744073709551616 * d ∧ s' < 18446744073709551616 ∧ d < 18446744073709551616 := by
  obtain ⟨h, l, e1, f1, l1, h1⟩ := aKi (N := N) hA hb
  obtain ⟨s, k, e2, f2, l2, h2⟩ := vU l1 hw (Nat.zero_le 1)
  obtain ⟨s', k', e3, f3, l3, h3⟩ := vU l2 hc (Nat.zero_le 1)
  have hP := Nat.mul_le_mul (Nat.le_pred_of_lt hA) (Nat.le_pred_of_lt hb)
  simp only [Nat.pred_eq_sub_one, Nat.reduceSub, Nat.reduceMul] at hP
  have hd : h + k + k' < 18446744073709551616 := by omega
  refine ⟨h, l, s, k, s', k', h + k + k', e1, e2, e3, ?_, by omega, l3, hd⟩
  rw [up (by omega), up (by omega)]
theorem q80 (a b c d e f g h : Int) : cX 8 [a, b, c, d, e, f, g, h] 0 = some a := rfl
theorem q81 (a b c d e f g h : Int) : cX 8 [a, b, c, d, e, f, g, h] 1 = some b := rfl
theorem q82 (a b c d e f g h : Int) : cX 8 [a, b, c, d, e, f, g, h] 2 = some c := rfl
theorem q83 (a b c d e f g h : Int) : cX 8 [a, b, c, d, e, f, g, h] 3 = some d := rfl
theorem q84 (a b c d e f g h : Int) : cX 8 [a, b, c, d, e, f, g, h] 4 = some e := rfl
theorem q85 (a b c d e f g h : Int) : cX 8 [a, b, c, d, e, f, g, h] 5 = some f := rfl
theorem q86 (a b c d e f g h : Int) : cX 8 [a, b, c, d, e, f, g, h] 6 = some g := rfl
theorem q87 (a b c d e f g h : Int) : cX 8 [a, b, c, d, e, f, g, h] 7 = some h := rfl
theorem t80 (a b c d e f g h x : Int) : [a, b, c, d, e, f, g, h].set (Int.toNat 0) x = [x, b, c, d, e, f, g, h] := rfl
theorem t81 (a b c d e f g h x : Int) : [a, b, c, d, e, f, g, h].set (Int.toNat 1) x = [a, x, c, d, e, f, g, h] := rfl
theorem t82 (a b c d e f g h x : Int) : [a, b, c, d, e, f, g, h].set (Int.toNat 2) x = [a, b, x, d, e, f, g, h] := rfl
theorem t83 (a b c d e f g h x : Int) : [a, b, c, d, e, f, g, h].set (Int.toNat 3) x = [a, b, c, x, e, f, g, h] := rfl
theorem t84 (a b c d e f g h x : Int) : [a, b, c, d, e, f, g, h].set (Int.toNat 4) x = [a, b, c, d, x, f, g, h] := rfl
theorem t85 (a b c d e f g h x : Int) : [a, b, c, d, e, f, g, h].set (Int.toNat 5) x = [a, b, c, d, e, x, g, h] := rfl
theorem t86 (a b c d e f g h x : Int) : [a, b, c, d, e, f, g, h].set (Int.toNat 6) x = [a, b, c, d, e, f, x, h] := rfl
theorem t87 (a b c d e f g h x : Int) : [a, b, c, d, e, f, g, h].set (Int.toNat 7) x = [a, b, c, d, e, f, g, x] := rfl
theorem x00 : IntKind.i64.wrap (0 + 0) = 0 := by decide +kernel
theorem x01 : IntKind.i64.wrap (0 + 1) = 1 := by decide +kernel
theorem x02 : IntKind.i64.wrap (0 + 2) = 2 := by decide +kernel
theorem x03 : IntKind.i64.wrap (0 + 3) = 3 := by decide +kernel
theorem x04 : IntKind.i64.wrap (0 + 4) = 4 := by decide +kernel
theorem cG : IntKind.i64.wrap (1 + 0) = 1 := by decide +kernel
theorem b7 : IntKind.i64.wrap (1 + 1) = 2 := by decide +kernel
theorem fF : IntKind.i64.wrap (1 + 2) = 3 := by decide +kernel
theorem cJ : IntKind.i64.wrap (1 + 3) = 4 := by decide +kernel
theorem bO : IntKind.i64.wrap (1 + 4) = 5 := by decide +kernel
theorem dD : IntKind.i64.wrap (2 + 0) = 2 := by decide +kernel
theorem iH : IntKind.i64.wrap (2 + 1) = 3 := by decide +kernel
theorem d8 : IntKind.i64.wrap (2 + 2) = 4 := by decide +kernel
theorem kX : IntKind.i64.wrap (2 + 3) = 5 := by decide +kernel
theorem fE : IntKind.i64.wrap (2 + 4) = 6 := by decide +kernel
theorem jG : IntKind.i64.wrap (3 + 0) = 3 := by decide +kernel
theorem gX : IntKind.i64.wrap (3 + 1) = 4 := by decide +kernel
theorem vF : IntKind.i64.wrap (3 + 2) = 5 := by decide +kernel
theorem gH : IntKind.i64.wrap (3 + 3) = 6 := by decide +kernel
theorem gO : IntKind.i64.wrap (3 + 4) = 7 := by decide +kernel
theorem aMT {N : Nat} (hN : 70000 ≤ N) {va : List Int} {A b0 b1 b2 b3 w0 w1 w2 w3 w4' w5 w6 w7 : Nat} (hA : cX 4 va 0 = some (A : Int)) (gA : A < 18446744073709551616) (g0 : b0 < 18446744073709551616) (g1 : b1 < 18446744073709551616) (g2 : b2 < 18446744073709551616) (g3 : b3 < 18446744073709551616) (h0 : w0 < 18446744073709551616) (h1 : w1 < 18446744073709551616) (h2 : w2 < 18446744073709551616) (h3 : w3 < 18446744073709551616) :
    ∃ s0 s1 s2 s3 c : Nat, dK N va (w4 b0 b1 b2 b3) 0 N 0 0 [(w0 : Int), (w1 : Int), (w2 : Int), (w3 : Int), (w4' : Int), (w5 : Int), (w6 : Int), (w7 : Int)] = some ((c : Int), [(s0 : Int), (s1 : Int), (s2 : Int), (s3 : Int), (w4' : Int), (w5 : Int), (w6 : Int), (w7 : Int)]) ∧ vl w0 w1 w2 w3 + (A * b0 + 18446744073709551616 * (A * b1) + 340282366920938463463374607431768211456 * (A * b2) + 6277101735386680763835789423207666416102355444464034512896 * (A * b3)) = vl s0 s1 s2 s3 + 115792089237316195423570985008687907853269984665640564039457584007913129639936 * c ∧ s0 < 18446744073709551616 ∧ s1 < 18446744073709551616 ∧ s2 < 18446744073709551616 ∧ s3 < 18446744073709551616 ∧ c < 18446744073709551616 := by
  obtain ⟨hh0, ll0, ss0, kk0, s0, jj0, c0, e0, f0, m0, n0, v0, y0, z0⟩ := oT (N := N) gA g0 h0 (show (0 : Nat) < 18446744073709551616 by omega)
  obtain ⟨hh1, ll1, ss1, kk1, s1, jj1, c1, e1, f1, m1, n1, v1, y1, z1⟩ := oT (N := N) gA g1 h1 z0
  obtain ⟨hh2, ll2, ss2, kk2, s2, jj2, c2, e2, f2, m2, n2, v2, y2, z2⟩ := oT (N := N) gA g2 h2 z1
  obtain ⟨hh3, ll3, ss3, kk3, s3, jj3, c3, e3, f3, m3, n3, v3, y3, z3⟩ := oT (N := N) gA g3 h3 z2
  refine ⟨s0, s1, s2, s3, c3, ?_, by unfold vl; omega, y0, y1, y2, y3, z3⟩
  obtain ⟨m, hm⟩ := tR (fun q => dK N va (w4 b0 b1 b2 b3) 0 q 0 0 [(w0 : Int), (w1 : Int), (w2 : Int), (w3 : Int), (w4' : Int), (w5 : Int), (w6 : Int), (w7 : Int)]) hN
  rw [hm]
  have m0' : tM (ss0 : Int) 0 0 = some ((s0 : Int), (jj0 : Int)) := m0
  simp only [dK, hH, hA, a40, a41, a42, a43, q80, q81, q82, q83, q84, q85, q86, q87, t80, t81, t82, t83, t84, t85, t86, t87, i01, i12, i23, i34, d04, d14, d24, d34, d44, x00, x01, x02, x03, x04, cG, b7, fF, cJ, bO, dD, iH, d8, kX, fE, jG, gX, vF, gH, gO, if_true, Bool.false_eq_true, if_false, Option.bind_some, e0, e1, e2, e3, f0, f1, f2, f3, m0', m1, m2, m3, n0, n1, n2, n3]
theorem aNe {N : Nat} (hN : 70000 ≤ N) {va : List Int} {A b0 b1 b2 b3 w0 w1 w2 w3 w4' w5 w6 w7 : Nat} (hA : cX 4 va 1 = some (A : Int)) (gA : A < 18446744073709551616) (g0 : b0 < 18446744073709551616) (g1 : b1 < 18446744073709551616) (g2 : b2 < 18446744073709551616) (g3 : b3 < 18446744073709551616) (h0 : w1 < 18446744073709551616) (h1 : w2 < 18446744073709551616) (h2 : w3 < 18446744073709551616) (h3 : w4' < 18446744073709551616) :
    ∃ s0 s1 s2 s3 c : Nat, dK N va (w4 b0 b1 b2 b3) 1 N 0 0 [(w0 : Int), (w1 : Int), (w2 : Int), (w3 : Int), (w4' : Int), (w5 : Int), (w6 : Int), (w7 : Int)] = some ((c : Int), [(w0 : Int), (s0 : Int), (s1 : Int), (s2 : Int), (s3 : Int), (w5 : Int), (w6 : Int), (w7 : Int)]) ∧ vl w1 w2 w3 w4' + (A * b0 + 18446744073709551616 * (A * b1) + 340282366920938463463374607431768211456 * (A * b2) + 6277101735386680763835789423207666416102355444464034512896 * (A * b3)) = vl s0 s1 s2 s3 + 115792089237316195423570985008687907853269984665640564039457584007913129639936 * c ∧ s0 < 18446744073709551616 ∧ s1 < 18446744073709551616 ∧ s2 < 18446744073709551616 ∧ s3 < 18446744073709551616 ∧ c < 18446744073709551616 := by
  obtain ⟨hh0, ll0, ss0, kk0, s0, jj0, c0, e0, f0, m0, n0, v0, y0, z0⟩ := oT (N := N) gA g0 h0 (show (0 : Nat) < 18446744073709551616 by omega)
  obtain ⟨hh1, ll1, ss1, kk1, s1, jj1, c1, e1, f1, m1, n1, v1, y1, z1⟩ := oT (N := N) gA g1 h1 z0
  obtain ⟨hh2, ll2, ss2, kk2, s2, jj2, c2, e2, f2, m2, n2, v2, y2, z2⟩ := oT (N := N) gA g2 h2 z1
  obtain ⟨hh3, ll3, ss3, kk3, s3, jj3, c3, e3, f3, m3, n3, v3, y3, z3⟩ := oT (N := N) gA g3 h3 z2
  refine ⟨s0, s1, s2, s3, c3, ?_, by unfold vl; omega, y0, y1, y2, y3, z3⟩
  obtain ⟨m, hm⟩ := tR (fun q => dK N va (w4 b0 b1 b2 b3) 1 q 0 0 [(w0 : Int), (w1 : Int), (w2 : Int), (w3 : Int), (w4' : Int), (w5 : Int), (w6 : Int), (w7 : Int)]) hN
  rw [hm]
  have m0' : tM (ss0 : Int) 0 0 = some ((s0 : Int), (jj0 : Int)) := m0
  simp only [dK, hH, hA, a40, a41, a42, a43, q80, q81, q82, q83, q84, q85, q86, q87, t80, t81, t82, t83, t84, t85, t86, t87, i01, i12, i23, i34, d04, d14, d24, d34, d44, x00, x01, x02, x03, x04, cG, b7, fF, cJ, bO, dD, iH, d8, kX, fE, jG, gX, vF, gH, gO, if_true, Bool.false_eq_true, if_false, Option.bind_some, e0, e1, e2, e3, f0, f1, f2, f3, m0', m1, m2, m3, n0, n1, n2, n3]
theorem aMJ {N : Nat} (hN : 70000 ≤ N) {va : List Int} {A b0 b1 b2 b3 w0 w1 w2 w3 w4' w5 w6 w7 : Nat} (hA : cX 4 va 2 = some (A : Int)) (gA : A < 18446744073709551616) (g0 : b0 < 18446744073709551616) (g1 : b1 < 18446744073709551616) (g2 : b2 < 18446744073709551616) (g3 : b3 < 18446744073709551616) (h0 : w2 < 18446744073709551616) (h1 : w3 < 18446744073709551616) (h2 : w4' < 18446744073709551616) (h3 : w5 < 18446744073709551616) :
    ∃ s0 s1 s2 s3 c : Nat, dK N va (w4 b0 b1 b2 b3) 2 N 0 0 [(w0 : Int), (w1 : Int), (w2 : Int), (w3 : Int), (w4' : Int), (w5 : Int), (w6 : Int), (w7 : Int)] = some ((c : Int), [(w0 : Int), (w1 : Int), (s0 : Int), (s1 : Int), (s2 : Int), (s3 : Int), (w6 : Int), (w7 : Int)]) ∧ vl w2 w3 w4' w5 + (A * b0 + 18446744073709551616 * (A * b1) + 340282366920938463463374607431768211456 * (A * b2) + 6277101735386680763835789423207666416102355444464034512896 * (A * b3)) = vl s0 s1 s2 s3 + 115792089237316195423570985008687907853269984665640564039457584007913129639936 * c ∧ s0 < 18446744073709551616 ∧ s1 < 18446744073709551616 ∧ s2 < 18446744073709551616 ∧ s3 < 18446744073709551616 ∧ c < 18446744073709551616 := by
  obtain ⟨hh0, ll0, ss0, kk0, s0, jj0, c0, e0, f0, m0, n0, v0, y0, z0⟩ := oT (N := N) gA g0 h0 (show (0 : Nat) < 18446744073709551616 by omega)
  obtain ⟨hh1, ll1, ss1, kk1, s1, jj1, c1, e1, f1, m1, n1, v1, y1, z1⟩ := oT (N := N) gA g1 h1 z0
  obtain ⟨hh2, ll2, ss2, kk2, s2, jj2, c2, e2, f2, m2, n2, v2, y2, z2⟩ := oT (N := N) gA g2 h2 z1
  obtain ⟨hh3, ll3, ss3, kk3, s3, jj3, c3, e3, f3, m3, n3, v3, y3, z3⟩ := oT (N := N) gA g3 h3 z2
  refine ⟨s0, s1, s2, s3, c3, ?_, by unfold vl; omega, y0, y1, y2, y3, z3⟩
  obtain ⟨m, hm⟩ := tR (fun q => dK N va (w4 b0 b1 b2 b3) 2 q 0 0 [(w0 : Int), (w1 : Int), (w2 : Int), (w3 : Int), (w4' : Int), (w5 : Int), (w6 : Int), (w7 : Int)]) hN
  rw [hm]
  have m0' : tM (ss0 : Int) 0 0 = some ((s0 : Int), (jj0 : Int)) := m0
  simp only [dK, hH, hA, a40, a41, a42, a43, q80, q81, q82, q83, q84, q85, q86, q87, t80, t81, t82, t83, t84, t85, t86, t87, i01, i12, i23, i34, d04, d14, d24, d34, d44, x00, x01, x02, x03, x04, cG, b7, fF, cJ, bO, dD, iH, d8, kX, fE, jG, gX, vF, gH, gO, if_true, Bool.false_eq_true, if_false, Option.bind_some, e0, e1, e2, e3, f0, f1, f2, f3, m0', m1, m2, m3, n0, n1, n2, n3]
theorem aMV {N : Nat} (hN : 70000 ≤ N) {va : List Int} {A b0 b1 b2 b3 w0 w1 w2 w3 w4' w5 w6 w7 : Nat} (hA : cX 4 va 3 = some (A : Int)) (gA : A < 18446744073709551616) (g0 : b0 < 18446744073709551616) (g1 : b1 < 18446744073709551616) (g2 : b2 < 18446744073709551616) (g3 : b3 < 18446744073709551616) (h0 : w3 < 18446744073709551616) (h1 : w4' < 18446744073709551616) (h2 : w5 < 18446744073709551616) (h3 : w6 < 18446744073709551616) :
    ∃ s0 s1 s2 s3 c : Nat, dK N va (w4 b0 b1 b2 b3) 3 N 0 0 [(w0 : Int), (w1 : Int), (w2 : Int), (w3 : Int), (w4' : Int), (w5 : Int), (w6 : Int), (w7 : Int)] = some ((c : Int), [(w0 : Int), (w1 : Int), (w2 : Int), (s0 : Int), (s1 : Int), (s2 : Int), (s3 : Int), (w7 : Int)]) ∧ vl w3 w4' w5 w6 + (A * b0 + 18446744073709551616 * (A * b1) + 340282366920938463463374607431768211456 * (A * b2) + 6277101735386680763835789423207666416102355444464034512896 * (A * b3)) = vl s0 s1 s2 s3 + 115792089237316195423570985008687907853269984665640564039457584007913129639936 * c ∧ s0 < 18446744073709551616 ∧ s1 < 18446744073709551616 ∧ s2 < 18446744073709551616 ∧ s3 < 18446744073709551616 ∧ c < 18446744073709551616 := by
  obtain ⟨hh0, ll0, ss0, kk0, s0, jj0, c0, e0, f0, m0, n0, v0, y0, z0⟩ := oT (N := N) gA g0 h0 (show (0 : Nat) < 18446744073709551616 by omega)
  obtain ⟨hh1, ll1, ss1, kk1, s1, jj1, c1, e1, f1, m1, n1, v1, y1, z1⟩ := oT (N := N) gA g1 h1 z0
  obtain ⟨hh2, ll2, ss2, kk2, s2, jj2, c2, e2, f2, m2, n2, v2, y2, z2⟩ := oT (N := N) gA g2 h2 z1
  obtain ⟨hh3, ll3, ss3, kk3, s3, jj3, c3, e3, f3, m3, n3, v3, y3, z3⟩ := oT (N := N) gA g3 h3 z2
  refine ⟨s0, s1, s2, s3, c3, ?_, by unfold vl; omega, y0, y1, y2, y3, z3⟩
  obtain ⟨m, hm⟩ := tR (fun q => dK N va (w4 b0 b1 b2 b3) 3 q 0 0 [(w0 : Int), (w1 : Int), (w2 : Int), (w3 : Int), (w4' : Int), (w5 : Int), (w6 : Int), (w7 : Int)]) hN
  rw [hm]
  have m0' : tM (ss0 : Int) 0 0 = some ((s0 : Int), (jj0 : Int)) := m0
  simp only [dK, hH, hA, a40, a41, a42, a43, q80, q81, q82, q83, q84, q85, q86, q87, t80, t81, t82, t83, t84, t85, t86, t87, i01, i12, i23, i34, d04, d14, d24, d34, d44, x00, x01, x02, x03, x04, cG, b7, fF, cJ, bO, dD, iH, d8, kX, fE, jG, gX, vF, gH, gO, if_true, Bool.false_eq_true, if_false, Option.bind_some, e0, e1, e2, e3, f0, f1, f2, f3, m0', m1, m2, m3, n0, n1, n2, n3]
theorem aL0 (A b0 b1 b2 b3 : Nat) : A * vl b0 b1 b2 b3 = A * b0 + 18446744073709551616 * (A * b1) + 340282366920938463463374607431768211456 * (A * b2) + 6277101735386680763835789423207666416102355444464034512896 * (A * b3) := by
  unfold vl
  rw [Nat.mul_add, Nat.mul_add, Nat.mul_add, Nat.mul_left_comm A 18446744073709551616 b1, Nat.mul_left_comm A 340282366920938463463374607431768211456 b2, Nat.mul_left_comm A 6277101735386680763835789423207666416102355444464034512896 b3]
theorem aMg {N : Nat} (hN : 70000 ≤ N) {a b : Nat} (ha : a < 115792089237316195423570985008687907853269984665640564039457584007913129639936) (hb : b < 115792089237316195423570985008687907853269984665640564039457584007913129639936) : aAj N (U a) (U b) = some (U (a * b / 115792089237316195423570985008687907853269984665640564039457584007913129639936), U (a * b % 115792089237316195423570985008687907853269984665640564039457584007913129639936)) := by
  obtain ⟨a0, a1, a2, a3, x0, x1, x2, x3, ea, va⟩ := aAX ha
  obtain ⟨b0, b1, b2, b3, y0, y1, y2, y3, eb, vb⟩ := aAX hb
  have zW : (0 : Nat) < 18446744073709551616 := by omega
  obtain ⟨s00, s01, s02, s03, c0, e0, f0, g00, g01, g02, g03, h0⟩ := aMT (N := N) hN (w0 := 0) (w1 := 0) (w2 := 0) (w3 := 0) (w4' := 0) (w5 := 0) (w6 := 0) (w7 := 0) (a40 a0 a1 a2 a3) x0 y0 y1 y2 y3 zW zW zW zW
  obtain ⟨s10, s11, s12, s13, c1, e1, f1, g10, g11, g12, g13, h1⟩ := aNe (N := N) hN (w0 := s00) (w5 := 0) (w6 := 0) (w7 := 0) (a41 a0 a1 a2 a3) x1 y0 y1 y2 y3 g01 g02 g03 h0
  obtain ⟨s20, s21, s22, s23, c2, e2, f2, g20, g21, g22, g23, h2⟩ := aMJ (N := N) hN (w0 := s00) (w1 := s10) (w6 := 0) (w7 := 0) (a42 a0 a1 a2 a3) x2 y0 y1 y2 y3 g11 g12 g13 h1
  obtain ⟨s30, s31, s32, s33, c3, e3, f3, g30, g31, g32, g33, h3⟩ := aMV (N := N) hN (w0 := s00) (w1 := s10) (w2 := s20) (w7 := 0) (a43 a0 a1 a2 a3) x3 y0 y1 y2 y3 g21 g22 g23 h2
  rw [← aL0] at f0 f1 f2 f3
  rw [← vb] at f0 f1 f2 f3
  have hab : a * b = a0 * b + 18446744073709551616 * (a1 * b) + 340282366920938463463374607431768211456 * (a2 * b) + 6277101735386680763835789423207666416102355444464034512896 * (a3 * b) := by
    rw [va]; unfold vl
    rw [Nat.add_mul, Nat.add_mul, Nat.add_mul, Nat.mul_assoc, Nat.mul_assoc, Nat.mul_assoc]
  have k1 := aEt g00 g10 g20 g30
  have hsum : a * b = vl s00 s10 s20 s30 + 115792089237316195423570985008687907853269984665640564039457584007913129639936 * vl s31 s32 s33 c3 := by
    rw [hab]
    unfold vl at *
    omega
  rw [ea, eb, show a * b / 115792089237316195423570985008687907853269984665640564039457584007913129639936 = vl s31 s32 s33 c3 by omega, show a * b % 115792089237316195423570985008687907853269984665640564039457584007913129639936 = vl s00 s10 s20 s30 by omega, ← aE0 g00 g10 g20 g30, ← aE0 g31 g32 g33 h3]
  obtain ⟨m, hm⟩ := tR (fun q => lJ N (w4 a0 a1 a2 a3) (w4 b0 b1 b2 b3) q 0 (List.replicate 8 0)) hN
  unfold aAj
  rw [hm]
  have e0' : dK N (w4 a0 a1 a2 a3) (w4 b0 b1 b2 b3) 0 N 0 0 [0, 0, 0, 0, 0, 0, 0, 0] = some ((c0 : Int), [(s00 : Int), (s01 : Int), (s02 : Int), (s03 : Int), 0, 0, 0, 0]) := e0
  have e1' : dK N (w4 a0 a1 a2 a3) (w4 b0 b1 b2 b3) 1 N 0 0 [(s00 : Int), (s01 : Int), (s02 : Int), (s03 : Int), (c0 : Int), 0, 0, 0] = some ((c1 : Int), [(s00 : Int), (s10 : Int), (s11 : Int), (s12 : Int), (s13 : Int), 0, 0, 0]) := e1
  have e2' : dK N (w4 a0 a1 a2 a3) (w4 b0 b1 b2 b3) 2 N 0 0 [(s00 : Int), (s10 : Int), (s11 : Int), (s12 : Int), (s13 : Int), (c1 : Int), 0, 0] = some ((c2 : Int), [(s00 : Int), (s10 : Int), (s20 : Int), (s21 : Int), (s22 : Int), (s23 : Int), 0, 0]) := e2
  have e3' : dK N (w4 a0 a1 a2 a3) (w4 b0 b1 b2 b3) 3 N 0 0 [(s00 : Int), (s10 : Int), (s20 : Int), (s21 : Int), (s22 : Int), (s23 : Int), (c2 : Int), 0] = some ((c3 : Int), [(s00 : Int), (s10 : Int), (s20 : Int), (s30 : Int), (s31 : Int), (s32 : Int), (s33 : Int), 0]) := e3
  simp only [lJ, wY, wM, show List.replicate 8 (0 : Int) = [0, 0, 0, 0, 0, 0, 0, 0] from rfl, e0', e1', e2', e3', q84, q85, q86, q87, t84, t85, t86, t87, i01, i12, i23, i34, d04, d14, d24, d34, d44, x04, bO, fE, gO, if_true, Bool.false_eq_true, if_false, Option.bind_some]
  rfl
end Go.Proofs.YtagblcjgjlihaaaDoor
set_option linter.unusedSimpArgs false
set_option linter.unusedVariables false
set_option linter.unusedSectionVars false
namespace Go.Proofs.YtagblcjgjlihaaaDoor
open Go Go.Vm
theorem aEw : (2 : Nat) ^ 256 = 115792089237316195423570985008687907853269984665640564039457584007913129639936 := by decide +kernel
theorem aL1 {K v : Nat} (hK : K + 1 ≤ 256) (hv : v < 2 ^ (K + 1)) : ∃ t v', t ≤ 1 ∧ v' < 2 ^ K ∧ v = t * 2 ^ K + v' ∧ 2 * (v * 2 ^ (256 - (K + 1))) = t * 115792089237316195423570985008687907853269984665640564039457584007913129639936 + v' * 2 ^ (256 - K) ∧ v' * 2 ^ (256 - K) < 115792089237316195423570985008687907853269984665640564039457584007913129639936 := by
  have hp : 0 < 2 ^ K := Nat.pow_pos (by omega)
  rw [Nat.pow_succ] at hv
  have h256 : 2 ^ K * 2 ^ (256 - K) = 115792089237316195423570985008687907853269984665640564039457584007913129639936 := by rw [← Nat.pow_add, show K + (256 - K) = 256 by omega, aEw]
  have hlt : v % 2 ^ K < 2 ^ K := Nat.mod_lt _ hp
  refine ⟨v / 2 ^ K, v % 2 ^ K, ?_, hlt, ?_, ?_, ?_⟩
  · exact Nat.le_of_lt_succ ((Nat.div_lt_iff_lt_mul hp).2 (by rw [Nat.mul_comm]; exact hv))
  · rw [Nat.mul_comm]; exact (Nat.div_add_mod v (2 ^ K)).symm
  · have hx : 2 ^ (256 - K) = 2 * 2 ^ (256 - (K + 1)) := by rw [show 256 - K = (256 - (K + 1)) + 1 by omega, Nat.pow_succ, Nat.mul_comm]
    rw [Nat.mul_left_comm, ← hx]
    conv => lhs; rw [← Nat.div_add_mod v (2 ^ K), Nat.add_mul, Nat.mul_right_comm, h256]
    rw [Nat.mul_comm]
  · rw [← h256]
    exact Nat.mul_lt_mul_of_pos_right hlt (Nat.pow_pos (by omega))
theorem aEF {α : Type} {n : Nat} {l : List α} (h : l.length = n) : b9 n l = some l := by unfold b9; rw [if_pos h]
theorem aGF (T b p v : Nat) : ((T % b) * p + v) % b = (T * p + v) % b := by
  rw [Nat.add_mod, Nat.mul_mod, Nat.mod_mod, ← Nat.mul_mod, ← Nat.add_mod]
theorem aKR (a b : Nat) : decide ((0 : Int) ≤ if a < b then -1 else if b < a then 1 else 0) = decide (b ≤ a) := by
  by_cases h : a < b
  · rw [if_pos h, decide_eq_false (show ¬ b ≤ a by omega)]; rfl
  · rw [if_neg h, decide_eq_true (show b ≤ a by omega)]
    split <;> rfl
theorem aKJ (a b : Nat) : decide ((if a < b then (-1 : Int) else if b < a then 1 else 0) < 0) = decide (a < b) := by
  by_cases h : a < b
  · rw [if_pos h, decide_eq_true h]; rfl
  · rw [if_neg h, decide_eq_false h]
    split <;> rfl
theorem aMi (a b : Nat) : decide ((if a < b then (-1 : Int) else if b < a then 1 else 0) ≤ 0) = decide (a ≤ b) := by
  by_cases h : a < b
  · rw [if_pos h, decide_eq_true (show a ≤ b by omega)]; rfl
  · rw [if_neg h]
    by_cases h2 : b < a
    · rw [if_pos h2, decide_eq_false (show ¬ a ≤ b by omega)]; rfl
    · rw [if_neg h2, decide_eq_true (show a ≤ b by omega)]; rfl
section
variable {N : Nat} (hN : 70000 ≤ N) {b : Nat} (hb : b < 115792089237316195423570985008687907853269984665640564039457584007913129639936) (hb0 : 0 < b)
include hN hb hb0
theorem aKV {cS : Nat} (hw : cS < 4) {m c K v r : Nat} (hc : c < 64) (hK : K = 64 * cS + c) (hv : v < 2 ^ (K + 1)) (hr : r < b) {q : List Int} (hq : q.length = 4) (hnz : ¬ (r = 0 ∧ v = 0)) :
    ∃ q' v' r', q'.length = 4 ∧ v' < 2 ^ K ∧ r' < b ∧ (r' * 2 ^ K + v') % b = (r * 2 ^ (K + 1) + v) % b ∧
      dV N (U b) (cS : Int) (m + 1) (c : Int) (U (v * 2 ^ (256 - (K + 1)))) q (U r) = dV N (U b) (cS : Int) m ((c : Int) - 1) (U (v' * 2 ^ (256 - K))) q' (U r') := by
  obtain ⟨t, v', ht, hv', hvv, h2, h3⟩ := aL1 (by omega : K + 1 ≤ 256) hv
  have hlo : v * 2 ^ (256 - (K + 1)) < 115792089237316195423570985008687907853269984665640564039457584007913129639936 := by
    have h5 := (Nat.mul_lt_mul_right (Nat.pow_pos (n := 256 - (K + 1)) (show 0 < 2 by omega))).2 hv
    rw [← Nat.pow_add, show K + 1 + (256 - (K + 1)) = 256 by omega, aEw] at h5
    exact h5
  generalize hlov : v * 2 ^ (256 - (K + 1)) = lo at *
  generalize hlov' : v' * 2 ^ (256 - K) = lo' at *
  have hr4 : r < 115792089237316195423570985008687907853269984665640564039457584007913129639936 := by omega
  obtain ⟨k, d1, d2⟩ := aKK hN hlo (Nat.zero_le 1)
  rw [show (2 * lo + 0) % 115792089237316195423570985008687907853269984665640564039457584007913129639936 = lo' by omega, show (2 * lo + 0) / 115792089237316195423570985008687907853269984665640564039457584007913129639936 = t by omega] at *
  rw [d2] at d1
  clear d2
  obtain ⟨k, d3, d4⟩ := aKK hN hr4 ht
  have d1' : oP N (U lo) 0 = some (U lo', ((t : Nat) : Int)) := d1
  have hT : (2 * r + t) % b < b := Nat.mod_lt _ hb0
  have hTv : ((2 * r + t) % b * 2 ^ K + v') % b = (r * 2 ^ (K + 1) + v) % b := by
    rw [aGF, hvv, Nat.add_mul, Nat.pow_succ, Nat.add_assoc, Nat.mul_right_comm 2 r, Nat.mul_comm (2 ^ K) 2, Nat.mul_comm (2 * 2 ^ K) r]
  have main : ∀ (q : List Int), q.length = 4 → ∃ q', q'.length = 4 ∧ qP N (U b) (cS : Int) (c : Int) (U lo) q (U r) (dV N (U b) (cS : Int) m) false = dV N (U b) (cS : Int) m ((c : Int) - 1) (U lo') q' (U ((2 * r + t) % b)) := by
    intro q hq
    simp only [qP, Bool.false_eq_true, if_false, kI, d1', d3, Option.bind_some]
    have hcw : IntKind.i64.wrap ((c : Int) - 1) = (c : Int) - 1 := fA (by omega) (by omega)
    have hsub : ∀ (x : Nat), x < 115792089237316195423570985008687907853269984665640564039457584007913129639936 → (x + 115792089237316195423570985008687907853269984665640564039457584007913129639936 - b) % 115792089237316195423570985008687907853269984665640564039457584007913129639936 = (2 * r + t) % b → ∃ q', q'.length = 4 ∧ oI N (U b) (cS : Int) (c : Int) q (U lo', ((t : Nat) : Int)) (U x, (k : Int)) (dV N (U b) (cS : Int) m) true = dV N (U b) (cS : Int) m ((c : Int) - 1) (U lo') q' (U ((2 * r + t) % b)) := by
      intro x hx he
      have hs : shl .u64 1 (c : Int) = some ((1 * 2 ^ c % 2 ^ IntKind.u64.bits : Nat) : Int) := aE2 rfl 1 c
      have ha : cX 4 q (cS : Int) = some (q[cS]'(by omega)) := by
        unfold cX
        rw [if_pos (by omega), cY q (by omega)]
      refine ⟨q.set (Int.toNat (cS : Int)) (bits .or .u64 (q[cS]'(by omega)) ((1 * 2 ^ c % 2 ^ IntKind.u64.bits : Nat) : Int)), by rw [List.length_set]; exact hq, ?_⟩
      simp only [oI, if_true, aGe hN hx hb, Option.bind_some, kI, ha, hs, qM, hcw, he]
    by_cases h1 : 2 * r + t < 115792089237316195423570985008687907853269984665640564039457584007913129639936
    · have hk0 : k = 0 := by omega
      subst hk0
      simp only [show (((0 : Nat) : Int) != 0) = false from rfl, Bool.false_eq_true, if_false, aCO hN (show (2 * r + t) % 115792089237316195423570985008687907853269984665640564039457584007913129639936 < 115792089237316195423570985008687907853269984665640564039457584007913129639936 by omega) hb, Option.bind_some, aKR]
      rw [Nat.mod_eq_of_lt h1] at *
      by_cases h4 : b ≤ 2 * r + t
      · rw [decide_eq_true h4]
        refine hsub _ h1 ?_
        rw [Nat.mod_eq_sub_mod h4, Nat.mod_eq_of_lt (show 2 * r + t - b < b by omega)]
        omega
      · rw [decide_eq_false h4]
        refine ⟨q, hq, ?_⟩
        simp only [oI, Bool.false_eq_true, if_false, qM, hcw]
        rw [Nat.mod_eq_of_lt (show 2 * r + t < b by omega)]
    · have hk1 : k = 1 := by omega
      subst hk1
      simp only [show (((1 : Nat) : Int) != 0) = true from rfl, if_true]
      refine hsub _ (by omega) ?_
      rw [Nat.mod_eq_sub_mod (show b ≤ 2 * r + t by omega), Nat.mod_eq_of_lt (show 2 * r + t - b < b by omega)]
      omega
  obtain ⟨q', hq', he⟩ := main q hq
  refine ⟨q', v', (2 * r + t) % b, hq', hv', hT, hTv, ?_⟩
  rw [hlov']
  rw [dV, show decide ((0 : Int) ≤ (c : Int)) = true from decide_eq_true (by omega), if_pos rfl, kI, Option.bind_some, ← aEc]
  rw [aIG hr4 (show 0 < 115792089237316195423570985008687907853269984665640564039457584007913129639936 by omega), kI, Option.bind_some, aIG hlo (show 0 < 115792089237316195423570985008687907853269984665640564039457584007913129639936 by omega)]
  by_cases h0 : r = 0
  · have hl0 : lo ≠ 0 := by
      intro h
      have : v = 0 := by
        rcases Nat.mul_eq_zero.1 (hlov.trans h) with h | h
        · exact h
        · exact absurd h (Nat.ne_of_gt (Nat.pow_pos (by omega)))
      exact hnz ⟨h0, this⟩
    rw [decide_eq_true h0, if_pos rfl, decide_eq_false hl0]
    exact he
  · rw [decide_eq_false h0]
    exact he
theorem aGl {cS : Nat} (hw : cS < 4) : ∀ (c m v r : Nat) (q : List Int), c ≤ 64 → c < m → v < 2 ^ (64 * cS + c) → r < b → q.length = 4 →
    (∃ q', q'.length = 4 ∧ (r * 2 ^ (64 * cS + c) + v) % b = 0 ∧ dV N (U b) (cS : Int) m ((c : Int) - 1) (U (v * 2 ^ (256 - (64 * cS + c)))) q (U r) = some (.ret (q', U 0))) ∨
    (∃ q' v' r', q'.length = 4 ∧ v' < 2 ^ (64 * cS) ∧ r' < b ∧ (r' * 2 ^ (64 * cS) + v') % b = (r * 2 ^ (64 * cS + c) + v) % b ∧
      dV N (U b) (cS : Int) m ((c : Int) - 1) (U (v * 2 ^ (256 - (64 * cS + c)))) q (U r) = some (.brk (U (v' * 2 ^ (256 - 64 * cS)), q', U r')))
  | 0, m, v, r, q, _, hm, hv, hr, hq => by
    obtain ⟨m, rfl⟩ : ∃ k, m = k + 1 := ⟨m - 1, by omega⟩
    refine .inr ⟨q, v, r, hq, hv, hr, rfl, ?_⟩
    rw [dV, show decide ((0 : Int) ≤ ((0 : Nat) : Int) - 1) = false from rfl]
    rfl
  | c + 1, m, v, r, q, hc, hm, hv, hr, hq => by
    obtain ⟨m, rfl⟩ : ∃ k, m = k + 1 := ⟨m - 1, by omega⟩
    rw [show ((c + 1 : Nat) : Int) - 1 = (c : Int) by omega]
    by_cases hz : r = 0 ∧ v = 0
    · obtain ⟨rfl, rfl⟩ := hz
      refine .inl ⟨q, hq, by simp, ?_⟩
      rw [dV, show decide ((0 : Int) ≤ (c : Int)) = true from decide_eq_true (by omega), if_pos rfl, Nat.zero_mul]
      rfl
    · obtain ⟨q', v', r', h1, h2, h3, h4, h5⟩ := aKV hN hb hb0 hw (m := m) (show c < 64 by omega) rfl (show v < 2 ^ (64 * cS + c + 1) from hv) hr hq hz
      rw [show 64 * cS + (c + 1) = 64 * cS + c + 1 from rfl, h5, ← h4]
      exact aGl hw c m v' r' q' (by omega) (by omega) h2 h3 h1
theorem aHP : ∀ (w m v r : Nat) (q : List Int), w ≤ 4 → w < m → v < 2 ^ (64 * w) → r < b → q.length = 4 →
    ∃ q', q'.length = 4 ∧ lG N (U b) m ((w : Int) - 1) (U (v * 2 ^ (256 - 64 * w))) q (U r) = some (q', U ((r * 2 ^ (64 * w) + v) % b))
  | 0, m, v, r, q, _, hm, hv, hr, hq => by
    obtain ⟨m, rfl⟩ : ∃ k, m = k + 1 := ⟨m - 1, by omega⟩
    refine ⟨q, hq, ?_⟩
    have hv0 : v = 0 := by simpa using hv
    subst hv0
    rw [lG, show decide ((0 : Int) ≤ ((0 : Nat) : Int) - 1) = false from rfl]
    simp [Nat.mod_eq_of_lt hr]
  | w + 1, m, v, r, q, hw, hm, hv, hr, hq => by
    obtain ⟨m, rfl⟩ : ∃ k, m = k + 1 := ⟨m - 1, by omega⟩
    rw [lG, show ((w + 1 : Nat) : Int) - 1 = (w : Int) by omega, show decide ((0 : Int) ≤ (w : Int)) = true from decide_eq_true (by omega), if_pos rfl]
    have e63 : (63 : Int) = ((64 : Nat) : Int) - 1 := rfl
    have ek : 64 * (w + 1) = 64 * w + 64 := by omega
    rw [ek] at hv
    rw [e63, ek]
    rcases aGl hN hb hb0 (show w < 4 by omega) 64 N v r q (Nat.le_refl _) (by omega) hv hr hq with ⟨q', h1, h2, h3⟩ | ⟨q', v', r', h1, h2, h3, h4, h5⟩
    · rw [h3, h2]
      exact ⟨q', h1, rfl⟩
    · rw [h5, ← h4]
      simp only [Option.bind_some, wZ]
      rw [fA (a := (w : Int) - 1) (by omega) (by omega)]
      exact aHP w m v' r' q' (by omega) (by omega) h2 h3 h1
theorem aKL {hi lo : Nat} (hh : hi < b) (hl : lo < 115792089237316195423570985008687907853269984665640564039457584007913129639936) : ∃ q', q'.length = 4 ∧ v6 N (U hi) (U lo) (U b) = some (q', U ((hi * 115792089237316195423570985008687907853269984665640564039457584007913129639936 + lo) % b), true) := by
  obtain ⟨q', h1, h2⟩ := aHP hN hb hb0 4 N lo hi (List.replicate 4 0) (Nat.le_refl _) (by omega) (by rw [show 64 * 4 = 256 from rfl, aEw]; exact hl) hh (by simp)
  rw [show ((4 : Nat) : Int) - 1 = 3 from rfl, show 256 - 64 * 4 = 0 from rfl, Nat.pow_zero, Nat.mul_one, show 64 * 4 = 256 from rfl, aEw] at h2
  refine ⟨q', h1, ?_⟩
  simp only [v6, kI, Option.bind_some, aCO hN hb (show hi < 115792089237316195423570985008687907853269984665640564039457584007913129639936 by omega), aMi]
  rw [decide_eq_false (show ¬ b ≤ hi by omega)]
  simp only [Bool.false_eq_true, if_false, h2, Option.bind_some, wT, aEF h1, kI, xE]
theorem aDG {a : Nat} (ha : a < 115792089237316195423570985008687907853269984665640564039457584007913129639936) : oF N (U a) (U b) = some (U (a % b)) := by
  simp only [oF, kI, Option.bind_some, aCO hN ha hb, aKJ]
  by_cases h : a < b
  · rw [decide_eq_true h, if_pos rfl, Nat.mod_eq_of_lt h]
  · rw [decide_eq_false h]
    obtain ⟨q', h1, h2⟩ := aKL hN hb hb0 hb0 ha
    rw [aEc, Nat.zero_mul, Nat.zero_add] at h2
    simp only [Bool.false_eq_true, if_false, h2, Option.bind_some, aEF h1, kI]
theorem aLu : (U b == [0, 0, 0, 0]) = false := by
  rw [← aEc, aIG hb (by omega)]
  exact decide_eq_false (by omega)
theorem aJU {x y : Nat} (hx : x < 115792089237316195423570985008687907853269984665640564039457584007913129639936) (hy : y < 115792089237316195423570985008687907853269984665640564039457584007913129639936) : tL N (U x) (U y) (U b) = some (U (x * y % b)) := by
  have hp : x * y / 115792089237316195423570985008687907853269984665640564039457584007913129639936 < 115792089237316195423570985008687907853269984665640564039457584007913129639936 := by
    have h5 := Nat.mul_le_mul (Nat.le_pred_of_lt hx) (Nat.le_pred_of_lt hy)
    simp only [Nat.pred_eq_sub_one, Nat.reduceSub, Nat.reduceMul] at h5
    omega
  obtain ⟨q', h1, h2⟩ := aKL hN hb hb0 (Nat.mod_lt (x * y / 115792089237316195423570985008687907853269984665640564039457584007913129639936) hb0) (show x * y % 115792089237316195423570985008687907853269984665640564039457584007913129639936 < 115792089237316195423570985008687907853269984665640564039457584007913129639936 by omega)
  rw [aGF, Nat.mul_comm (x * y / 115792089237316195423570985008687907853269984665640564039457584007913129639936) 115792089237316195423570985008687907853269984665640564039457584007913129639936, Nat.div_add_mod] at h2
  simp only [tL, kI, Option.bind_some, aLu hN hb hb0, Bool.false_eq_true, if_false, aMg hN hx hy, aDG hN hb hb0 hp, h2, aEF h1, sW]
theorem aJQ {x y : Nat} (hx : x < 115792089237316195423570985008687907853269984665640564039457584007913129639936) (hy : y < 115792089237316195423570985008687907853269984665640564039457584007913129639936) : s9 N (U x) (U y) (U b) = some (U ((x + y) % b)) := by
  have h1 := Nat.mod_lt x hb0
  have h2 := Nat.mod_lt y hb0
  have key : (x + y) % b = if x % b + y % b < b then x % b + y % b else x % b + y % b - b := by
    rw [Nat.add_mod]
    split
    · rename_i h; exact Nat.mod_eq_of_lt h
    · rename_i h; rw [Nat.mod_eq_sub_mod (by omega), Nat.mod_eq_of_lt (by omega)]
  simp only [s9, kI, Option.bind_some, aLu hN hb hb0, Bool.false_eq_true, if_false, aDG hN hb hb0 hx, aDG hN hb hb0 hy, aMw hN (show x % b < 115792089237316195423570985008687907853269984665640564039457584007913129639936 by omega) (show y % b < 115792089237316195423570985008687907853269984665640564039457584007913129639936 by omega)]
  rw [key]
  generalize x % b = u at *
  generalize y % b = v at *
  by_cases h : 115792089237316195423570985008687907853269984665640564039457584007913129639936 ≤ u + v
  · rw [decide_eq_true h, if_neg (show ¬ u + v < b by omega)]
    simp only [if_true, lA, aGe hN (show (u + v) % 115792089237316195423570985008687907853269984665640564039457584007913129639936 < 115792089237316195423570985008687907853269984665640564039457584007913129639936 by omega) hb, Option.bind_some, kI, k8]
    rw [show ((u + v) % 115792089237316195423570985008687907853269984665640564039457584007913129639936 + 115792089237316195423570985008687907853269984665640564039457584007913129639936 - b) % 115792089237316195423570985008687907853269984665640564039457584007913129639936 = u + v - b by omega]
  · rw [decide_eq_false h]
    simp only [Bool.false_eq_true, if_false, aCO hN (show (u + v) % 115792089237316195423570985008687907853269984665640564039457584007913129639936 < 115792089237316195423570985008687907853269984665640564039457584007913129639936 by omega) hb, Option.bind_some, aKR]
    rw [Nat.mod_eq_of_lt (show u + v < 115792089237316195423570985008687907853269984665640564039457584007913129639936 by omega)]
    by_cases h3 : b ≤ u + v
    · rw [decide_eq_true h3, if_neg (show ¬ u + v < b by omega)]
      simp only [if_true, lA, aGe hN (show u + v < 115792089237316195423570985008687907853269984665640564039457584007913129639936 by omega) hb, Option.bind_some, kI, k8]
      rw [show (u + v + 115792089237316195423570985008687907853269984665640564039457584007913129639936 - b) % 115792089237316195423570985008687907853269984665640564039457584007913129639936 = u + v - b by omega]
    · rw [decide_eq_false h3, if_pos (show u + v < b by omega)]
      simp only [Bool.false_eq_true, if_false, lA, Option.bind_some, kI, k8]
end
end Go.Proofs.YtagblcjgjlihaaaDoor
set_option linter.unusedSimpArgs false
set_option linter.unusedVariables false
set_option linter.unusedSectionVars false
set_option maxRecDepth 20000
namespace Go.Proofs.YtagblcjgjlihaaaDoor
open Go Go.Vm
theorem aLm : ((List.range 256).all fun y => match iP 0 (y : Int) 0 with | some v => decide (0 ≤ v ∧ v ≤ 8 ∧ y < 2 ^ v.toNat) | none => false) = true := by decide +kernel
theorem aJn (z : Int) : IntKind.i64.wrap (0 + IntKind.i64.wrap z) = IntKind.i64.wrap z := by simp only [IntKind.wrap_i64]; omega
theorem aLI {N x : Nat} (hx : x < 256) {n : Nat} (hn : n ≤ 1000) : ∃ t : Nat, t ≤ 8 ∧ x < 2 ^ t ∧ iP N (x : Int) (n : Int) = some ((n + t : Nat) : Int) := by
  have h := List.all_eq_true.1 aLm x (by simpa using hx)
  unfold iP at h ⊢
  generalize hs : aIV _ (IntKind.u8.wrap (x : Int)) = s at h ⊢
  cases s with
  | none => simp at h
  | some z =>
    simp only [Option.bind_some, aJn, decide_eq_true_eq] at h ⊢
    generalize IntKind.i64.wrap z = w at *
    obtain ⟨h1, h2, h3⟩ := h
    clear hs
    refine ⟨w.toNat, ?_, h3, ?_⟩ <;> clear h3
    · omega
    · rw [fA (by omega) (by omega)]
      congr 1; omega
theorem aHn {x k t : Nat} (h : x / 2 ^ k < 2 ^ t) : x < 2 ^ (k + t) := by
  rw [Nat.pow_add, Nat.mul_comm]
  exact (Nat.div_lt_iff_lt_mul (Nat.pow_pos (by omega))).1 h
theorem aKc (a b : Nat) : decide ((a : Int) ≤ (b : Int)) = decide (a ≤ b) := by
  by_cases h : a ≤ b
  · rw [decide_eq_true h, decide_eq_true (by omega)]
  · rw [decide_eq_false h, decide_eq_false (by omega)]
theorem aBB {N x : Nat} (hx : x < 18446744073709551616) : ∃ n : Nat, n ≤ 64 ∧ x < 2 ^ n ∧ nX N (x : Int) = some (n : Int) := by
  have j2 : ∀ (x n : Nat), x < 65536 → n ≤ 100 → ∃ t : Nat, t ≤ 16 ∧ x < 2 ^ t ∧ jO N (x : Int) (n : Int) = some ((n + t : Nat) : Int) := by
    intro x n hx hn
    unfold jO
    rw [show (256 : Int) = ((256 : Nat) : Int) from rfl, aKc]
    by_cases h : 256 ≤ x
    · rw [decide_eq_true h, if_pos rfl, show shr .u64 (x : Int) 8 = some ((x / 256 : Nat) : Int) from wG x 8 (Nat.lt_of_lt_of_le hx (by decide)), Option.bind_some, fA (a := (n : Int) + 8) (by omega) (by omega), show (n : Int) + 8 = ((n + 8 : Nat) : Int) by omega]
      obtain ⟨t, h1, h2, h3⟩ := aLI (N := N) (show x / 256 < 256 by omega) (show n + 8 ≤ 1000 by omega)
      exact ⟨8 + t, Nat.add_le_add_left h1 8, aHn (k := 8) h2, by rw [h3, Nat.add_assoc]⟩
    · rw [decide_eq_false h]
      obtain ⟨t, h1, h2, h3⟩ := aLI (N := N) (show x < 256 by omega) (show n ≤ 1000 by omega)
      exact ⟨t, Nat.le_trans h1 (by decide), h2, h3⟩
  have j1 : ∀ (x n : Nat), x < 4294967296 → n ≤ 50 → ∃ t : Nat, t ≤ 32 ∧ x < 2 ^ t ∧ jN N (x : Int) (n : Int) = some ((n + t : Nat) : Int) := by
    intro x n hx hn
    unfold jN
    rw [show (65536 : Int) = ((65536 : Nat) : Int) from rfl, aKc]
    by_cases h : 65536 ≤ x
    · rw [decide_eq_true h, if_pos rfl, show shr .u64 (x : Int) 16 = some ((x / 65536 : Nat) : Int) from wG x 16 (Nat.lt_of_lt_of_le hx (by decide)), Option.bind_some, fA (a := (n : Int) + 16) (by omega) (by omega), show (n : Int) + 16 = ((n + 16 : Nat) : Int) by omega]
      obtain ⟨t, h1, h2, h3⟩ := j2 (x / 65536) (n + 16) (by omega) (by omega)
      exact ⟨16 + t, Nat.add_le_add_left h1 16, aHn (k := 16) h2, by rw [h3, Nat.add_assoc]⟩
    · rw [decide_eq_false h]
      obtain ⟨t, h1, h2, h3⟩ := j2 x n (by omega) (by omega)
      exact ⟨t, Nat.le_trans h1 (by decide), h2, h3⟩
  unfold nX
  rw [show (4294967296 : Int) = ((4294967296 : Nat) : Int) from rfl, aKc]
  by_cases h : 4294967296 ≤ x
  · rw [decide_eq_true h, if_pos rfl, show shr .u64 (x : Int) 32 = some ((x / 4294967296 : Nat) : Int) from wG x 32 hx, Option.bind_some]
    obtain ⟨t, h1, h2, h3⟩ := j1 (x / 4294967296) 32 (by omega) (by omega)
    exact ⟨32 + t, Nat.add_le_add_left h1 32, aHn (k := 32) h2, h3⟩
  · rw [decide_eq_false h]
    obtain ⟨t, h1, h2, h3⟩ := j1 x 0 (by omega) (by omega)
    exact ⟨t, Nat.le_trans h1 (by decide), h2, by rw [Nat.zero_add] at h3; exact h3⟩
theorem aMo {N : Nat} (hN : 70000 ≤ N) {e : Nat} (he : e < 115792089237316195423570985008687907853269984665640564039457584007913129639936) : ∃ n : Nat, n ≤ 256 ∧ e < 2 ^ n ∧ aAe N (U e) = some (n : Int) := by
  obtain ⟨a0, a1, a2, a3, x0, x1, x2, x3, ea, va⟩ := aAX he
  unfold vl at va
  obtain ⟨n0, l0, p0, f0⟩ := aBB (N := N) x0
  obtain ⟨n1, l1, p1, f1⟩ := aBB (N := N) x1
  obtain ⟨n2, l2, p2, f2⟩ := aBB (N := N) x2
  obtain ⟨n3, l3, p3, f3⟩ := aBB (N := N) x3
  rw [ea]
  obtain ⟨m, hm⟩ := tR (fun q => oO N (w4 a0 a1 a2 a3) q 3) hN
  unfold aAe
  rw [hm]
  simp only [oO, a40, a41, a42, a43, i32, i21, i10, i0m, show decide ((0 : Int) ≤ 3) = true from rfl, show decide ((0 : Int) ≤ 2) = true from rfl, show decide ((0 : Int) ≤ 1) = true from rfl, show decide ((0 : Int) ≤ 0) = true from rfl, show decide ((0 : Int) ≤ -1) = false from rfl, if_true, Bool.false_eq_true, if_false, Option.bind_some, wU, f0, f1, f2, f3]
  have nz : ∀ x : Nat, (((x : Nat) : Int) != 0) = !decide (x = 0) := fun x => by
    by_cases h : x = 0
    · subst h; rfl
    · rw [decide_eq_false h]; simp; omega
  rw [nz, nz, nz, nz]
  have wr : ∀ (i n : Nat), i ≤ 3 → n ≤ 64 → IntKind.i64.wrap (IntKind.i64.wrap (64 * (i : Int)) + (n : Int)) = ((64 * i + n : Nat) : Int) := fun i n hi hn => by
    rw [fA (a := 64 * (i : Int)) (by omega) (by omega), fA (by omega) (by omega)]; omega
  have q3 := wr 3 n3 (by omega) l3
  have q2 := wr 2 n2 (by omega) l2
  have q1 := wr 1 n1 (by omega) l1
  have q0 := wr 0 n0 (by omega) l0
  have pw : ∀ i n : Nat, 2 ^ (64 * i + n) = 2 ^ (64 * i) * 2 ^ n := fun i n => Nat.pow_add _ _ _
  by_cases h3 : a3 = 0
  · rw [decide_eq_true h3]
    by_cases h2 : a2 = 0
    · rw [decide_eq_true h2]
      by_cases h1 : a1 = 0
      · rw [decide_eq_true h1]
        by_cases h0 : a0 = 0
        · rw [decide_eq_true h0]
          exact ⟨0, by omega, by simp; omega, rfl⟩
        · rw [decide_eq_false h0]
          refine ⟨64 * 0 + n0, by omega, ?_, ?_⟩
          · rw [show 64 * 0 + n0 = n0 by omega]; omega
          · rw [← q0]; rfl
      · rw [decide_eq_false h1]
        refine ⟨64 * 1 + n1, by omega, ?_, ?_⟩
        · rw [pw, show 2 ^ (64 * 1) = 18446744073709551616 from rfl]
          generalize 2 ^ n1 = z at *
          omega
        · rw [← q1]; rfl
    · rw [decide_eq_false h2]
      refine ⟨64 * 2 + n2, by omega, ?_, ?_⟩
      · rw [pw, show 2 ^ (64 * 2) = 340282366920938463463374607431768211456 from rfl]
        generalize 2 ^ n2 = z at *
        omega
      · rw [← q2]; rfl
  · rw [decide_eq_false h3]
    refine ⟨64 * 3 + n3, by omega, ?_, ?_⟩
    · rw [pw, show 2 ^ (64 * 3) = 6277101735386680763835789423207666416102355444464034512896 from rfl]
      generalize 2 ^ n3 = z at *
      omega
    · rw [← q3]; rfl
theorem aJm (N : Nat) : nT N = some (U 115792089237316195423570985008687907853269984665640564039457584007913129603823) := by unfold nT; decide +kernel
theorem aEs (N : Nat) : mK N = some (U 57896044618658097711785492504343953926634992332820282019728792003956564801911) := by unfold mK; decide +kernel
theorem aKy {N : Nat} (hN : 70000 ≤ N) {a b : Nat} (ha : a < 115792089237316195423570985008687907853269984665640564039457584007913129639936) (hb : b < 115792089237316195423570985008687907853269984665640564039457584007913129639936) : sE N (U a) (U b) = some (U (a * b % 115792089237316195423570985008687907853269984665640564039457584007913129603823)) := by
  simp only [sE, kI, aJm, Option.bind_some, aJU (b := 115792089237316195423570985008687907853269984665640564039457584007913129603823) hN (by decide) (by decide) ha hb]
theorem aMs {e : Nat} (he : e < 115792089237316195423570985008687907853269984665640564039457584007913129639936) {j : Nat} (hj : j < 256) : ∃ x y : Nat, cX 4 (U e) ((j / 64 : Nat) : Int) = some (x : Int) ∧ shr .u64 (x : Int) ((j % 64 : Nat) : Int) = some (y : Int) ∧ (bits .and .u64 (y : Int) 1 == 1) = decide (e / 2 ^ j % 2 = 1) := by
  have hx : cX 4 (U e) ((j / 64 : Nat) : Int) = some ((e / 2 ^ (64 * (j / 64)) % 18446744073709551616 : Nat) : Int) := by
    have h4 : j / 64 < 4 := by omega
    unfold U
    generalize j / 64 = k at *
    match k, h4 with
    | 0, _ => rw [show 2 ^ (64 * 0) = 1 from rfl, Nat.div_one]; rfl
    | 1, _ => rfl
    | 2, _ => rfl
    | 3, _ => rfl
  refine ⟨_, _, hx, wG _ _ (show e / 2 ^ (64 * (j / 64)) % 18446744073709551616 < 2 ^ 64 by omega), ?_⟩
  have hlt : e / 2 ^ (64 * (j / 64)) % 18446744073709551616 / 2 ^ (j % 64) < 2 ^ 64 := Nat.lt_of_le_of_lt (Nat.div_le_self _ _) (show e / 2 ^ (64 * (j / 64)) % 18446744073709551616 < 2 ^ 64 by omega)
  rw [show (1 : Int) = ((1 : Nat) : Int) from rfl, aCA (k := .u64) rfl _ 1 hlt (by decide), Nat.and_one_is_mod]
  have key : e / 2 ^ (64 * (j / 64)) % 18446744073709551616 / 2 ^ (j % 64) % 2 = e / 2 ^ j % 2 := by
    have h1 : (e / 2 ^ (64 * (j / 64)) % 2 ^ 64).testBit (j % 64) = (e / 2 ^ (64 * (j / 64))).testBit (j % 64) := by
      rw [Nat.testBit_mod_two_pow, decide_eq_true (Nat.mod_lt _ (by omega)), Bool.true_and]
    rw [Nat.testBit_div_two_pow, show j % 64 + 64 * (j / 64) = j by omega] at h1
    rw [Nat.testBit_eq_decide_div_mod_eq, Nat.testBit_eq_decide_div_mod_eq, decide_eq_decide] at h1
    have h2 : e / 2 ^ (64 * (j / 64)) % 2 ^ 64 / 2 ^ (j % 64) % 2 = e / 2 ^ j % 2 := by
      generalize e / 2 ^ (64 * (j / 64)) % 2 ^ 64 / 2 ^ (j % 64) = u at *
      generalize e / 2 ^ j = w at *
      omega
    exact h2
  rw [key]
  generalize e / 2 ^ j % 2 = u
  by_cases h : u = 1
  · subst h; rfl
  · rw [decide_eq_false h]; simp; omega
theorem aJV (a p e : Nat) : (a ^ (e / 2) % p) * (a ^ (e / 2) % p) % p * (if e % 2 = 1 then a else 1) % p = a ^ e % p := by
  have h : a ^ e = a ^ (e / 2) * a ^ (e / 2) * (if e % 2 = 1 then a else 1) := by
    rw [← Nat.pow_add]
    split
    · rename_i h1
      rw [← Nat.pow_succ]; congr 1; omega
    · rw [Nat.mul_one]; congr 1; omega
  rw [h, ← Nat.mul_mod, Nat.mod_mul_mod]
section
variable {N : Nat} (hN : 70000 ≤ N)
include hN
theorem aDi {a e n : Nat} (ha : a < 115792089237316195423570985008687907853269984665640564039457584007913129639936) (he : e < 115792089237316195423570985008687907853269984665640564039457584007913129639936) (hn : n ≤ 256) : ∀ (m j : Nat), n - j < m → j ≤ n → j7 N (U a) (U e) (n : Int) m (j : Int) (U (a ^ (e / 2 ^ (n - j)) % 115792089237316195423570985008687907853269984665640564039457584007913129603823)) = some (U (a ^ e % 115792089237316195423570985008687907853269984665640564039457584007913129603823))
  | 0, j, hm, _ => by omega
  | m + 1, j, hm, hj => by
    rw [j7]
    by_cases h : j < n
    · rw [dT h, if_pos rfl]
      have hp : a ^ (e / 2 ^ (n - j)) % 115792089237316195423570985008687907853269984665640564039457584007913129603823 < 115792089237316195423570985008687907853269984665640564039457584007913129639936 := Nat.lt_of_lt_of_le (Nat.mod_lt _ (by omega)) (by omega)
      obtain ⟨x, y, b1, b2, b3⟩ := aMs he (show n - 1 - j < 256 by omega)
      rw [fA (a := (n : Int) - 1) (by omega) (by omega), fA (a := (n : Int) - 1 - (j : Int)) (by omega) (by omega), show (n : Int) - 1 - (j : Int) = ((n - 1 - j : Nat) : Int) by omega, show (64 : Int) = ((64 : Nat) : Int) from rfl, z5, zJ, fA (a := (((n - 1 - j) / 64 : Nat) : Int)) (by omega) (by omega)]
      simp only [kI, aKy hN hp hp, Option.bind_some, b1, b2, b3]
      have hdiv : e / 2 ^ (n - (j + 1)) / 2 = e / 2 ^ (n - j) := by rw [Nat.div_div_eq_div_mul, show 2 ^ (n - (j + 1)) * 2 = 2 ^ (n - j) by rw [← Nat.pow_succ]; congr 1; omega]
      have key := aJV a 115792089237316195423570985008687907853269984665640564039457584007913129603823 (e / 2 ^ (n - (j + 1)))
      rw [hdiv] at key
      have hlt2 : (a ^ (e / 2 ^ (n - j)) % 115792089237316195423570985008687907853269984665640564039457584007913129603823) * (a ^ (e / 2 ^ (n - j)) % 115792089237316195423570985008687907853269984665640564039457584007913129603823) % 115792089237316195423570985008687907853269984665640564039457584007913129603823 < 115792089237316195423570985008687907853269984665640564039457584007913129639936 := Nat.lt_of_lt_of_le (Nat.mod_lt _ (by omega)) (by omega)
      rw [show n - 1 - j = n - (j + 1) by omega]
      by_cases hb : e / 2 ^ (n - (j + 1)) % 2 = 1
      · rw [decide_eq_true hb, if_pos rfl, aKy hN hlt2 ha]
        rw [if_pos hb] at key
        simp only [Option.bind_some, kI, o5, i1 (show j ≤ 100000 by omega), key]
        exact aDi ha he hn m (j + 1) (by omega) (by omega)
      · rw [decide_eq_false hb]
        rw [if_neg hb, Nat.mul_one, Nat.mod_mod] at key
        simp only [Bool.false_eq_true, if_false, o5, i1 (show j ≤ 100000 by omega), key]
        exact aDi ha he hn m (j + 1) (by omega) (by omega)
    · obtain rfl : j = n := by omega
      rw [dF h, Nat.sub_self, Nat.pow_zero, Nat.div_one]
      rfl
theorem aIm {a e : Nat} (ha : a < 115792089237316195423570985008687907853269984665640564039457584007913129639936) (he : e < 115792089237316195423570985008687907853269984665640564039457584007913129639936) : rK N (U a) (U e) = some (U (a ^ e % 115792089237316195423570985008687907853269984665640564039457584007913129603823)) := by
  obtain ⟨n, h1, h2, h3⟩ := aMo hN he
  have h4 := aDi hN ha he h1 N 0 (by omega) (by omega)
  rw [Nat.sub_zero, Nat.div_eq_of_lt h2, Nat.pow_zero, show 1 % 115792089237316195423570985008687907853269984665640564039457584007913129603823 = 1 from rfl, show ((0 : Nat) : Int) = 0 from rfl] at h4
  have hU1 : ([1, 0, 0, 0] : List Int) = U 1 := by decide +kernel
  simp only [rK, iQ, hU1, kI, h3, Option.bind_some, h4, u5]
end
end Go.Proofs.YtagblcjgjlihaaaDoor
set_option linter.unusedSimpArgs false
set_option linter.unusedVariables false
set_option linter.unusedSectionVars false
namespace Go.Proofs.YtagblcjgjlihaaaDoor
open Go Go.Vm
theorem aMA (op : BinOp) (a b : Int) : 0 ≤ bits op .u64 a b ∧ bits op .u64 a b < 18446744073709551616 := by
  unfold bits
  rw [IntKind.wrap_u64]
  omega
theorem Wd.set {l : List Int} (h : Wd l) (i : Nat) {x : Int} (hx : 0 ≤ x ∧ x < 18446744073709551616) : Wd (l.set i x) :=
  ⟨by rw [List.length_set]; exact h.1, fun y hy => (List.mem_or_eq_of_mem_set hy).elim (h.2 y) (fun e => e ▸ hx)⟩
section
variable {N : Nat} (hN : 70000 ≤ N)
include hN
theorem aH6 {h : List Int} (hl : h.length = 32) : ∀ (m j : Nat) (l : List Int), 32 - j < m → j ≤ 32 → Wd l → ∃ r, i0 N h m (j : Int) l = some r ∧ Wd r
  | 0, j, l, hm, _, _ => by omega
  | m + 1, j, l, hm, hj, hw => by
    rw [i0]
    by_cases hh : j < 32
    · have h4 := hw.1
      rw [show decide ((j : Int) < 32) = true from decide_eq_true (by omega), if_pos rfl, fQ hh (by omega), show (8 : Int) = ((8 : Nat) : Int) from rfl, z5, fA (a := ((j / 8 : Nat) : Int)) (by omega) (by omega), fA (a := 3 - ((j / 8 : Nat) : Int)) (by omega) (by omega), show 3 - ((j / 8 : Nat) : Int) = ((3 - j / 8 : Nat) : Int) by omega, fQ (show 3 - j / 8 < 4 by omega) (by omega)]
      obtain ⟨y, hy⟩ : ∃ y, shl .u64 l[3 - j / 8] ((8 : Nat) : Int) = some y := by unfold shl; rw [if_neg (by omega)]; exact ⟨_, rfl⟩
      simp only [Option.bind_some, hy, i1 (show j ≤ 100000 by omega)]
      exact aH6 hl m (j + 1) _ (by omega) (by omega) (hw.set _ (aMA _ _ _))
    · rw [show decide ((j : Int) < 32) = false from decide_eq_false (by omega)]
      exact ⟨l, rfl, hw⟩
theorem vB {h : List Int} (hl : h.length = 32) : ∃ n, n < 115792089237316195423570985008687907853269984665640564039457584007913129639936 ∧ iU N h = some (U n) := by
  obtain ⟨r, h1, h2⟩ := aH6 hN hl N 0 (List.replicate 4 0) (by omega) (by omega) ⟨by simp, fun x hx => by have := List.eq_of_mem_replicate hx; omega⟩
  rw [show ((0 : Nat) : Int) = 0 from rfl] at h1
  obtain ⟨n, hn, rfl⟩ := h2.ex
  exact ⟨n, hn, by simp only [iU, jT hl, Option.bind_some, h1, oU, kI]⟩
def byG (n : Nat) (i : Nat) : Int := IntKind.u8.wrap (((U n).getD (3 - i / 8) 0).fdiv (2 ^ (56 - 8 * (i % 8))))
def zQ (n : Nat) : List Int := (List.range 32).map (byG n)
omit hN in
theorem aAY (n : Nat) : (zQ n).length = 32 := by simp [zQ]
omit hN in
theorem aH3 (n : Nat) : Byt (zQ n) := by
  intro x hx
  simp only [zQ, List.mem_map] at hx
  obtain ⟨i, _, rfl⟩ := hx
  exact aCl _
theorem aH5 (n : Nat) : ∀ (m j : Nat), 32 - j < m → j ≤ 32 → mF N (U n) m (j : Int) ((List.range j).map (byG n) ++ List.replicate (32 - j) 0) = some (zQ n)
  | 0, j, hm, _ => by omega
  | m + 1, j, hm, hj => by
    rw [mF]
    by_cases h : j < 32
    · have hg : cX 4 (U n) ((3 - j / 8 : Nat) : Int) = some ((U n).getD (3 - j / 8) 0) := by
        have : 3 - j / 8 < (U n).length := by rw [aMj]; omega
        rw [fQ (show 3 - j / 8 < 4 by omega) this]; simp [this]
      rw [show decide ((j : Int) < 32) = true from decide_eq_true (by omega), if_pos rfl, show (8 : Int) = ((8 : Nat) : Int) from rfl, z5, zJ, fA (a := ((j / 8 : Nat) : Int)) (by omega) (by omega), fA (a := 3 - ((j / 8 : Nat) : Int)) (by omega) (by omega), show 3 - ((j / 8 : Nat) : Int) = ((3 - j / 8 : Nat) : Int) by omega, hg]
      rw [fA (a := ((j % 8 : Nat) : Int) * ((8 : Nat) : Int)) (by omega) (by omega), fA (a := 56 - ((j % 8 : Nat) : Int) * ((8 : Nat) : Int)) (by omega) (by omega), show 56 - ((j % 8 : Nat) : Int) * ((8 : Nat) : Int) = ((56 - 8 * (j % 8) : Nat) : Int) by omega]
      simp only [Option.bind_some]
      rw [aKO _ _ (by omega), fQ h (by simp; omega)]
      simp only [Option.bind_some, Int.toNat_natCast, i1 (show j ≤ 100000 by omega)]
      have := aFK (byG n) 32 j h
      rw [show IntKind.u8.wrap (((U n).getD (3 - j / 8) 0).fdiv (2 ^ (56 - 8 * (j % 8)))) = byG n j from rfl, this]
      exact aH5 n m (j + 1) (by omega) (by omega)
    · obtain rfl : j = 32 := by omega
      rw [show decide (((32 : Nat) : Int) < 32) = false from rfl]
      simp [zQ]
theorem aK8 (n : Nat) : sV N (U n) = some (zQ n) := by
  have := aH5 hN n N 0 (by omega) (by omega)
  simp only [List.range_zero, List.map_nil, List.nil_append, Nat.sub_zero] at this
  rw [show ((0 : Nat) : Int) = 0 from rfl] at this
  simp only [sV, this, Option.bind_some, tO, jT (aAY n)]
theorem grow (l : List (List Int)) (hn : l.length ≤ 1000) (h32 : ∀ x ∈ l, x.length = 32) : wH N l = some l.flatten := by
  have hfl : l.flatten.length ≤ l.length * 32 := by
    clear hn
    induction l with
    | nil => simp
    | cons x l ih =>
      have h1 := h32 x (by simp)
      have h2 := ih (fun y hy => h32 y (by simp [hy]))
      simp only [List.flatten_cons, List.length_append, List.length_cons]; omega
  have := aBA (f := mO N l) l hn (by omega) (fun m j acc hj hB => by
    rw [mO, dT hj, if_pos rfl, cY l hj, Option.bind_some, jT (h32 _ (List.getElem_mem hj)), Option.bind_some, oJ (by omega)]
    simp only [Option.bind_some, i1 (show j ≤ 100000 by omega)]) (fun m j acc hj => by rw [mO, dF (by omega)]; rfl) N hN
  unfold wH
  rw [this]; rfl
theorem aJt {h : List Int} (hl : h.length = 32) : ∃ n, n < 57896044618658097711785492504343953926634992332820282019728792003956564801911 ∧ rQ N h = some (U n) := by
  obtain ⟨n, h1, h2⟩ := vB hN hl
  refine ⟨(n + 0) % 57896044618658097711785492504343953926634992332820282019728792003956564801911, Nat.mod_lt _ (by decide), ?_⟩
  rw [show rQ N h = ((b9 32 h).bind fun q => (iU N h).bind fun x4 => (nW N x4 [0, 0, 0, 0]).bind fun x6 => (b9 4 x6).bind fun q_1 => some x6) from rfl]
  simp only [jT hl, Option.bind_some, h2, ← aEc, nW, kI, aEs, aJQ (b := 57896044618658097711785492504343953926634992332820282019728792003956564801911) hN (by decide) (by decide) h1 (show (0 : Nat) < 115792089237316195423570985008687907853269984665640564039457584007913129639936 by decide)]
def aJ2 : ByteArray := ⟨#[108, 105, 103, 104, 116, 99, 108, 105, 101, 110, 116, 47, 99, 104, 97, 108, 108, 101, 110, 103, 101]⟩
theorem aGo {r p : Nat} {m : List Int} (hm : m.length = 32) (hb : Byt m) : ∃ n, n < 57896044618658097711785492504343953926634992332820282019728792003956564801911 ∧ oY N (U r) (U p) m = some (U n) := by
  obtain ⟨n, h1, h2⟩ := aJt hN (aBP N aJ2 (zQ r ++ (zQ p ++ m)))
  refine ⟨n, h1, ?_⟩
  have hrow : wH N [zQ r, zQ p, m] = some (zQ r ++ (zQ p ++ m)) := by
    rw [grow hN _ (by simp) (fun x hx => by
      simp only [List.mem_cons, List.not_mem_nil, or_false] at hx
      rcases hx with rfl | rfl | rfl
      · exact aAY _
      · exact aAY _
      · exact hm)]
    simp
  have ht := aFD N hN aJ2 (by decide) (zQ r ++ (zQ p ++ m)) ((aH3 _).append ((aH3 _).append hb)) (by simp [aAY, hm])
  simp only [oY, kI, aK8 hN, jT hm, jT (aAY _), hrow, Option.bind_some]
  rw [show (⟨#[108, 105, 103, 104, 116, 99, 108, 105, 101, 110, 116, 47, 99, 104, 97, 108, 108, 101, 110, 103, 101]⟩ : ByteArray) = aJ2 from rfl, ht]
  simp only [Option.bind_some, h2, kI]
theorem aBL {a : Nat} (ha : a < 115792089237316195423570985008687907853269984665640564039457584007913129639936) : mN N (U a) = some (decide (a < 57896044618658097711785492504343953926634992332820282019728792003956564801911)) := by
  simp only [mN, kI, aEs, Option.bind_some, aCO hN ha (show (57896044618658097711785492504343953926634992332820282019728792003956564801911 : Nat) < 115792089237316195423570985008687907853269984665640564039457584007913129639936 by decide), aKJ]
theorem aKT : ([1, 0, 0, 0] : List Int) = U 1 := by decide +kernel
theorem aI9 {a : Nat} (ha : a < 115792089237316195423570985008687907853269984665640564039457584007913129639936) : ∃ v, sD N (U a) = some v := by
  have hJ : ∀ t, ∃ v, lY N (U a) t = some v := by
    intro t
    cases t with
    | true => exact ⟨_, rfl⟩
    | false =>
      simp only [lY, Bool.false_eq_true, if_false, kI, aEs, Option.bind_some, aIm hN ha (show (57896044618658097711785492504343953926634992332820282019728792003956564801911 : Nat) < 115792089237316195423570985008687907853269984665640564039457584007913129639936 by decide), iQ, aKT hN]
      exact ⟨_, rfl⟩
  simp only [sD, kI, Option.bind_some, aJm, aCO hN ha (show (115792089237316195423570985008687907853269984665640564039457584007913129603823 : Nat) < 115792089237316195423570985008687907853269984665640564039457584007913129639936 by decide)]
  split
  · exact hJ _
  · exact hJ _
theorem aG9 {a : Nat} (ha : a < 115792089237316195423570985008687907853269984665640564039457584007913129639936) : ∃ v, sI N (U a) = some v := by
  obtain ⟨v, hv⟩ := aI9 hN ha
  simp only [sI, kI, iQ, aKT hN, Option.bind_some, hv]
  split <;> exact ⟨_, rfl⟩
theorem aJp {p e s : Nat} {m : List Int} (hp : p < 115792089237316195423570985008687907853269984665640564039457584007913129639936) (he : e < 115792089237316195423570985008687907853269984665640564039457584007913129639936) (hs : s < 115792089237316195423570985008687907853269984665640564039457584007913129639936) (hm : m.length = 32) (hb : Byt m) : ∃ v, tJ N (U p) m (U e) (U s) = some v := by
  obtain ⟨v, hv⟩ := aG9 hN hp
  have hq : (57896044618658097711785492504343953926634992332820282019728792003956564801911 : Nat) < 115792089237316195423570985008687907853269984665640564039457584007913129639936 := by decide
  have hJ : ∀ t, ∃ v, lB N (U p) m (U e) (U s) t = some v := by
    intro t
    cases t with
    | true => exact ⟨_, rfl⟩
    | false =>
      have hd : (57896044618658097711785492504343953926634992332820282019728792003956564801911 + 115792089237316195423570985008687907853269984665640564039457584007913129639936 - e) % 115792089237316195423570985008687907853269984665640564039457584007913129639936 < 115792089237316195423570985008687907853269984665640564039457584007913129639936 := Nat.mod_lt _ (by decide)
      have h4 : ([4, 0, 0, 0] : List Int) = U 4 := by decide +kernel
      have hx : ∀ z : Nat, z % 115792089237316195423570985008687907853269984665640564039457584007913129603823 < 115792089237316195423570985008687907853269984665640564039457584007913129639936 := fun z => Nat.lt_trans (Nat.mod_lt z (by decide)) (by decide)
      simp only [lB, Bool.false_eq_true, if_false, kI, aEs, Option.bind_some, aGe hN hq he, wL, iQ, h4, aIm hN (show (4 : Nat) < 115792089237316195423570985008687907853269984665640564039457584007913129639936 by decide) hs, aIm hN hp hd, aKy hN (hx _) (hx _), jT hm]
      obtain ⟨n, _, hn⟩ := aGo hN (r := 4 ^ s % 115792089237316195423570985008687907853269984665640564039457584007913129603823 * (p ^ ((57896044618658097711785492504343953926634992332820282019728792003956564801911 + 115792089237316195423570985008687907853269984665640564039457584007913129639936 - e) % 115792089237316195423570985008687907853269984665640564039457584007913129639936) % 115792089237316195423570985008687907853269984665640564039457584007913129603823) % 115792089237316195423570985008687907853269984665640564039457584007913129603823) (p := p) hm hb
      rw [hn]
      exact ⟨_, rfl⟩
  simp only [tJ, kI, Option.bind_some, aBL hN he, aBL hN hs, hv]
  split
  · exact hJ _
  · split
    · exact hJ _
    · exact hJ _
theorem aI8 {b : List Int} : ∃ e s r, e < 115792089237316195423570985008687907853269984665640564039457584007913129639936 ∧ s < 115792089237316195423570985008687907853269984665640564039457584007913129639936 ∧ tK N b = some (U e, U s, r) := by
  have h0 : List.replicate 4 (0 : Int) = U 0 := by decide +kernel
  unfold tK
  by_cases hl : b.length = 64
  · rw [show (((b.length : Nat) : Int) != 64) = false by rw [hl]; rfl]
    have e1 : sub b 0 32 = some (b.take 32) := by unfold sub; rw [if_pos ⟨by omega, by omega, by omega⟩]; simp
    have e2 : sub b 32 (b.length : Int) = some (b.drop 32) := by
      unfold sub; rw [if_pos ⟨by omega, by omega, by omega⟩, Int.toNat_natCast, List.take_of_length_le (Nat.le_refl _)]; rfl
    have l1 : (b.take 32).length = 32 := by simp; omega
    have l2 : (b.drop 32).length = 32 := by simp; omega
    have a1 : sY 32 (b.take 32) = some (b.take 32) := by unfold sY; rw [if_pos (by omega), List.take_of_length_le (by omega)]
    have a2 : sY 32 (b.drop 32) = some (b.drop 32) := by unfold sY; rw [if_pos (by omega), List.take_of_length_le (by omega)]
    obtain ⟨e, h1, h2⟩ := vB hN l1
    obtain ⟨s, h3, h4⟩ := vB hN l2
    have hJ : ∀ t, ∃ e' s' r, e' < 115792089237316195423570985008687907853269984665640564039457584007913129639936 ∧ s' < 115792089237316195423570985008687907853269984665640564039457584007913129639936 ∧ mT N (U e) (U s) t = some (U e', U s', r) := by
      intro t
      cases t with
      | true => exact ⟨0, 0, 5, by decide, by decide, by unfold mT; rw [h0]; rfl⟩
      | false => exact ⟨e, s, 0, h1, h3, rfl⟩
    simp only [Bool.false_eq_true, if_false, e1, e2, a1, a2, h2, h4, Option.bind_some, kI, aBL hN h1, aBL hN h3]
    split
    · exact hJ _
    · exact hJ _
  · rw [show (((b.length : Nat) : Int) != 64) = true by simp; omega, if_pos rfl, h0]
    exact ⟨0, 0, 8, by decide, by decide, rfl⟩
theorem aJd {m : List Int} (hm : m.length = 32) (hb : Byt m) (h a : Int) (st : List (List Int)) (br : List aS) (c : Int) (key sig : List Int) : ∃ e, eN N m h a st br c key sig = some e := by
  have hJ : ∀ t, ∃ e, iG N m h a st br c t = some e := fun t => by cases t <;> exact ⟨_, rfl⟩
  unfold eN
  by_cases hl : key.length = 32
  · rw [show (((key.length : Nat) : Int) != 32) = false by rw [hl]; rfl]
    have a1 : sY 32 key = some key := by unfold sY; rw [if_pos (by omega), List.take_of_length_le (by omega)]
    obtain ⟨p, h1, h2⟩ := vB hN hl
    obtain ⟨v, hv⟩ := aG9 hN h1
    simp only [Bool.false_eq_true, if_false, a1, h2, Option.bind_some, kI, hv]
    split
    · exact ⟨_, rfl⟩
    · split
      · exact ⟨_, rfl⟩
      · obtain ⟨e, s, r, h3, h4, h5⟩ := aI8 hN (b := sig)
        simp only [h5, Option.bind_some]
        split
        · exact hJ _
        · obtain ⟨w, hw⟩ := aJp hN h1 h3 h4 hm hb
          simp only [jT hm, Option.bind_some, hw]
          exact hJ _
  · rw [show (((key.length : Nat) : Int) != 32) = true by simp; omega]
    exact ⟨_, rfl⟩
end
end Go.Proofs.YtagblcjgjlihaaaDoor
set_option linter.unusedSimpArgs false
set_option linter.unusedVariables false
set_option linter.unusedSectionVars false
namespace Go.Proofs.YtagblcjgjlihaaaDoor
open Go Go.Vm
theorem aLF {N : Nat} (hN : 70000 ≤ N) (l : List (List Int)) (hn : l.length ≤ 1000) (ht : l.flatten.length ≤ 50000000) : pR N l = some l.flatten := by
  have := aBA (f := kR N l) l hn ht (fun m j acc hj hB => by
    rw [kR, dT hj, if_pos rfl, cY l hj, Option.bind_some, oJ (by omega)]
    simp only [Option.bind_some, i1 (show j ≤ 100000 by omega)]) (fun m j acc hj => by rw [kR, dF (by omega)]; rfl) N hN
  unfold pR
  rw [this]; rfl
def aBb (m n : Int) : Bool := decide (1 ≤ n) && decide (n ≤ 15) && decide (1 ≤ m) && decide (m ≤ n)
theorem aJS (N : Nat) (m n : Int) : o1 N m n = some (aBb m n) := by
  unfold o1 aBb iZ
  cases decide (1 ≤ n) <;> cases decide (n ≤ 15) <;> cases decide (1 ≤ m) <;> rfl
def jX (x : Int) (r : List Int) : bM × List Int × Int :=
  if x < 1 ∨ 17 < x then (⟨0, [], 0, 0⟩, [], 80)
  else if x = 1 then
    match r with
    | [] => (⟨0, [], 0, 0⟩, [], 1)
    | n :: r' => if (r'.length : Int) < n then (⟨0, [], 0, 0⟩, [], 1) else (⟨1, r'.take n.toNat, 0, 0⟩, r'.drop n.toNat, 0)
  else if x = 11 then
    match r with
    | m :: n :: r' => if aBb m n = true then (⟨11, [], m, n⟩, r', 0) else (⟨0, [], 0, 0⟩, [], 5)
    | _ => (⟨0, [], 0, 0⟩, [], 1)
  else (⟨x, [], 0, 0⟩, r, 0)
theorem aHj {α : Type} (x : α) (l : List α) : dB (x :: l) 0 = some x := rfl
theorem aM3 {α : Type} (x y : α) (l : List α) : dB (x :: y :: l) 1 = some y := rfl
theorem aNi {α : Type} (x : α) (l : List α) : sub (x :: l) 1 (((x :: l).length : Nat) : Int) = some l := by
  unfold sub
  rw [if_pos ⟨by omega, by simp; omega, by omega⟩, Int.toNat_natCast, List.take_of_length_le (Nat.le_refl _)]; rfl
theorem aMY {α : Type} (x y : α) (l : List α) : sub (x :: y :: l) 2 (((x :: y :: l).length : Nat) : Int) = some l := by
  unfold sub
  rw [if_pos ⟨by omega, by simp; omega, by omega⟩, Int.toNat_natCast, List.take_of_length_le (Nat.le_refl _)]; rfl
theorem aLg {N : Nat} (hN : 70000 ≤ N) {x : Int} {r : List Int} (hb : Byt (x :: r)) (hl : r.length ≤ 100000) :
    tC N (x :: r) = some ((jX x r).1.Code, (jX x r).1.Data, (jX x r).1.M, (jX x r).1.N, (jX x r).2.1, (jX x r).2.2) := by
  have hx := hb x (by simp)
  have wx : IntKind.i64.wrap x = x := fA (by omega) (by omega)
  have hk : rR N x = some (decide (1 ≤ x) && decide (x ≤ 17)) := by
    unfold rR n9
    cases decide (1 ≤ x) <;> rfl
  unfold tC jX
  simp only [aHj, Option.bind_some, wx, hk, aNi]
  by_cases h0 : x < 1 ∨ 17 < x
  · rw [if_pos h0]
    have : (decide (1 ≤ x) && decide (x ≤ 17)) = false := by
      rcases h0 with h | h
      · rw [decide_eq_false (by omega)]; rfl
      · rw [decide_eq_false (show ¬ x ≤ 17 by omega), Bool.and_false]
    rw [this]; rfl
  · rw [if_neg h0, show (decide (1 ≤ x) && decide (x ≤ 17)) = true by rw [decide_eq_true (by omega), decide_eq_true (by omega)]; rfl]
    simp only [Bool.not_true, Bool.false_eq_true, if_false]
    by_cases h1 : x = 1
    · subst h1
      rw [if_pos rfl, show ((1 : Int) == 1) = true from rfl, if_pos rfl]
      match r, hb, hl with
      | [], _, _ => rfl
      | n :: r', hb, hl =>
        have hn := hb n (by simp)
        have wn : IntKind.i64.wrap n = n := fA (by omega) (by omega)
        rw [show ((((n :: r').length : Nat) : Int) == 0) = false by simp; omega]
        simp only [Bool.false_eq_true, if_false, aHj, Option.bind_some, wn]
        have hl' : r'.length + 1 ≤ 100000 := by simpa using hl
        rw [show (((n :: r').length : Nat) : Int) - 1 = ((r'.length : Nat) : Int) by simp, fA (a := ((r'.length : Nat) : Int)) (by omega) (by omega)]
        by_cases h2 : (r'.length : Int) < n
        · rw [decide_eq_true h2, if_pos h2]; rfl
        · rw [decide_eq_false h2, if_neg h2]
          have e1 : sub (n :: r') 1 (IntKind.i64.wrap (1 + n)) = some (r'.take n.toNat) := by
            rw [fA (by omega) (by omega)]
            unfold sub
            rw [if_pos ⟨by omega, by omega, by simp; omega⟩, show (1 + n).toNat = n.toNat + 1 by omega]; rfl
          have e2 : sub (n :: r') (IntKind.i64.wrap (1 + n)) (((n :: r').length : Nat) : Int) = some (r'.drop n.toNat) := by
            rw [fA (by omega) (by omega)]
            unfold sub
            rw [if_pos ⟨by omega, by simp; omega, by omega⟩, show (1 + n).toNat = n.toNat + 1 by omega, Int.toNat_natCast, List.take_of_length_le (Nat.le_refl _)]; rfl
          have e3 : pR N [r'.take n.toNat] = some (r'.take n.toNat) := by
            rw [aLF hN _ (by simp) (by simp; omega)]; simp
          simp only [o3, Bool.false_eq_true, if_false, aHj, Option.bind_some, wn, e1, e2, e3, k6]
          rfl
    · rw [if_neg h1, show (x == 1) = false by simpa using h1]
      simp only [Bool.false_eq_true, if_false]
      by_cases h2 : x = 11
      · subst h2
        rw [if_pos rfl, show ((11 : Int) == 11) = true from rfl, if_pos rfl]
        match r, hb, hl with
        | [], _, _ => rfl
        | [m], _, _ => rfl
        | m :: n :: r', hb, hl =>
          have hm := hb m (by simp)
          have hn := hb n (by simp)
          have wm : IntKind.i64.wrap m = m := fA (by omega) (by omega)
          have wn : IntKind.i64.wrap n = n := fA (by omega) (by omega)
          rw [show decide ((((m :: n :: r').length : Nat) : Int) < 2) = false from decide_eq_false (by simp; omega)]
          simp only [Bool.false_eq_true, if_false, aHj, aM3, Option.bind_some, wm, wn, aMY, sM, aJS]
          cases hr : aBb m n with
          | false => rfl
          | true => rfl
      · rw [if_neg h2, show (x == 11) = false by simpa using h2]
        simp only [Bool.false_eq_true, if_false, k6, wx]
structure VOp (o : bM) : Prop where
  data : Byt o.Data ∧ o.Data.length ≤ 255
  multi : o.Code = 11 → 1 ≤ o.M ∧ o.M ≤ o.N ∧ o.N ≤ 15
theorem aDu {x : Int} {r : List Int} (hb : Byt (x :: r)) (he : (jX x r).2.2 = 0) : VOp (jX x r).1 ∧ Byt (jX x r).2.1 ∧ (jX x r).2.1.length ≤ r.length ∧ ∀ t, jX x (r ++ t) = ((jX x r).1, (jX x r).2.1 ++ t, 0) := by
  have hr : Byt r := fun y hy => hb y (by simp [hy])
  unfold jX at he ⊢
  by_cases h0 : x < 1 ∨ 17 < x
  · rw [if_pos h0] at he; cases he
  · simp only [if_neg h0] at he ⊢
    by_cases h1 : x = 1
    · subst h1
      simp only [if_true] at he ⊢
      match r, hr, he with
      | [], _, he => cases he
      | n :: r', hr, he =>
        simp only at he ⊢
        by_cases h2 : (r'.length : Int) < n
        · rw [if_pos h2] at he; cases he
        · simp only [if_neg h2] at he ⊢
          have hn := hr n (by simp)
          have hr' : Byt r' := fun y hy => hr y (by simp [hy])
          refine ⟨⟨⟨aHh hr' _, by simp; omega⟩, fun h => by simp at h⟩, aGz hr' _, by simp; omega, fun t => ?_⟩
          simp only [List.cons_append]
          rw [if_neg (by simp; omega), List.take_append_of_le_length (by omega), List.drop_append_of_le_length (by omega)]
    · simp only [if_neg h1] at he ⊢
      by_cases h2 : x = 11
      · subst h2
        simp only [if_true] at he ⊢
        match r, hr, he with
        | [], _, he => cases he
        | [_], _, he => cases he
        | m :: n :: r', hr, he =>
          simp only [List.cons_append] at he ⊢
          by_cases h3 : aBb m n = true
          · simp only [if_pos h3] at he ⊢
            refine ⟨⟨⟨fun y hy => by simp at hy, by simp⟩, fun _ => ?_⟩, fun y hy => hr y (by simp [hy]), by simp; omega, fun t => trivial⟩
            simp only [aBb, Bool.and_eq_true, decide_eq_true_eq] at h3
            exact ⟨h3.1.2, h3.2, h3.1.1.2⟩
          · rw [if_neg h3] at he; cases he
      · simp only [if_neg h2] at he ⊢
        exact ⟨⟨⟨fun y hy => by simp at hy, by simp⟩, fun h => absurd h h2⟩, hr, Nat.le_refl _, fun t => trivial⟩
def lO : Nat → List Int → List bM → LR (List bM) (List bM × Int)
  | 0, _, acc => .brk acc
  | _ + 1, [], acc => .brk acc
  | k + 1, x :: r, acc => if (jX x r).2.2 = 0 then lO k (jX x r).2.1 (acc ++ [(jX x r).1]) else .ret ([], (jX x r).2.2)
theorem aDU {N : Nat} (hN : 70000 ≤ N) : ∀ (m : Nat) (b : List Int) (acc : List bM), b.length < m → Byt b → b.length ≤ 100000 → acc.length + b.length ≤ 200000 → kB N m b acc = some (lO m b acc)
  | 0, b, acc, hm, _, _, _ => by omega
  | m + 1, [], acc, _, _, _, _ => rfl
  | m + 1, x :: r, acc, hm, hb, hl, ha => by
    simp only [List.length_cons] at hm hl ha
    rw [kB, show decide ((0 : Int) < (((x :: r).length : Nat) : Int)) = true from decide_eq_true (by rw [List.length_cons]; omega), if_pos rfl, aLg hN hb (by omega)]
    simp only [Option.bind_some, lO]
    by_cases he : (jX x r).2.2 = 0
    · obtain ⟨h1, h2, h3, _⟩ := aDu hb he
      rw [if_pos he, he, show ((0 : Int) != 0) = false from rfl]
      have hlim := p9
      simp only [Bool.false_eq_true, if_false]
      rw [aA0 (by simp; omega)]
      simp only [Option.bind_some]
      exact aDU hN m _ _ (by omega) h2 (by omega) (by simp; omega)
    · rw [if_neg he, show ((jX x r).2.2 != 0) = true by simpa using he]
      rfl
theorem aAO : ∀ (k k' : Nat) (b : List Int) (acc : List bM), Byt b → b.length < k → b.length < k' → lO k b acc = lO k' b acc
  | 0, _, b, _, _, hk, _ => by omega
  | k + 1, 0, b, _, _, _, hk => by omega
  | k + 1, k' + 1, [], acc, _, _, _ => rfl
  | k + 1, k' + 1, x :: r, acc, hb, h1, h2 => by
    simp only [List.length_cons] at h1 h2
    simp only [lO]
    by_cases he : (jX x r).2.2 = 0
    · obtain ⟨_, h4, h3, _⟩ := aDu hb he
      rw [if_pos he, if_pos he]
      exact aAO k k' _ _ h4 (by omega) (by omega)
    · rw [if_neg he, if_neg he]
theorem aF2 : ∀ (k : Nat) (b : List Int) (acc l : List bM), Byt b → b.length < k → (∀ o ∈ acc, VOp o) → lO k b acc = .brk l → (∀ o ∈ l, VOp o) ∧ l.length ≤ acc.length + b.length ∧ ∀ (t : List Int) (k' : Nat), Byt t → b.length + t.length < k' → lO k' (b ++ t) acc = lO (t.length + 1) t l
  | 0, b, _, _, _, hk, _, _ => by omega
  | k + 1, [], acc, l, _, _, hv, h => by
    injection h with h
    subst h
    refine ⟨hv, by simp, fun t k' ht hk => ?_⟩
    rw [List.nil_append]
    exact aAO _ _ _ _ ht (by simpa using hk) (by omega)
  | k + 1, x :: r, acc, l, hb, hk, hv, h => by
    simp only [List.length_cons] at hk
    simp only [lO] at h
    by_cases he : (jX x r).2.2 = 0
    · obtain ⟨h1, h4, h3, h5⟩ := aDu hb he
      rw [if_pos he] at h
      obtain ⟨g1, g2, g3⟩ := aF2 k _ _ l h4 (by omega) (fun o ho => (List.mem_append.1 ho).elim (hv o) (fun hh => by simp only [List.mem_singleton] at hh; exact hh ▸ h1)) h
      refine ⟨g1, by simp at g2 ⊢; omega, fun t k' ht hk' => ?_⟩
      obtain ⟨k', rfl⟩ : ∃ q, k' = q + 1 := ⟨k' - 1, by omega⟩
      simp only [List.length_cons] at hk'
      rw [List.cons_append, lO, h5 t]
      simp only [if_true]
      exact g3 t k' ht (by omega)
    · rw [if_neg he] at h; cases h
def c8 (b : List Int) : List bM × Int := if 520 < b.length then ([], 4) else match lO (b.length + 1) b [] with | .ret v => v | .brk l => (l, 0)
theorem aKG {N : Nat} (hN : 70000 ≤ N) {b : List Int} (hb : Byt b) : rY N b = some (c8 b) := by
  unfold rY c8
  by_cases h : 520 < b.length
  · rw [show decide ((520 : Int) < ((b.length : Nat) : Int)) = true from decide_eq_true (by omega), if_pos rfl, if_pos h]
  · rw [show decide ((520 : Int) < ((b.length : Nat) : Int)) = false from decide_eq_false (by omega), if_neg h, aDU hN N b [] (by omega) hb (by omega) (by simp; omega), aAO N (b.length + 1) b [] hb (by omega) (by omega)]
    cases lO (b.length + 1) b [] <;> rfl
theorem aEu : ∀ (k : Nat) (b : List Int) (acc : List bM) (v : List bM × Int), lO k b acc = .ret v → v.1 = [] ∧ v.2 ≠ 0
  | 0, _, _, _, h => by cases h
  | k + 1, [], _, _, h => by cases h
  | k + 1, x :: r, acc, v, h => by
    simp only [lO] at h
    by_cases he : (jX x r).2.2 = 0
    · rw [if_pos he] at h; exact aEu k _ _ v h
    · rw [if_neg he] at h; injection h with h; subst h; exact ⟨rfl, he⟩
theorem aFZ {b : List Int} (hb : Byt b) (h : (c8 b).2 = 0) : (∀ o ∈ (c8 b).1, VOp o) ∧ (c8 b).1.length ≤ 520 ∧ b.length ≤ 520 ∧ lO (b.length + 1) b [] = .brk (c8 b).1 := by
  unfold c8 at h ⊢
  by_cases hl : 520 < b.length
  · rw [if_pos hl] at h; cases h
  · simp only [if_neg hl] at h ⊢
    cases hp : lO (b.length + 1) b [] with
    | ret v => rw [hp] at h; exact absurd h (aEu _ _ _ _ hp).2
    | brk l =>
      obtain ⟨g1, g2, _⟩ := aF2 _ b [] l hb (by omega) (by simp) hp
      exact ⟨g1, by simp at g2; show l.length ≤ 520; omega, by omega, rfl⟩
end Go.Proofs.YtagblcjgjlihaaaDoor
set_option linter.unusedSimpArgs false
set_option linter.unusedVariables false
set_option linter.unusedSectionVars false
namespace Go.Proofs.YtagblcjgjlihaaaDoor
open Go Go.Vm
def aAz (v : Bool) : List Int := if v then [1] else []
theorem aDe (v : Bool) : Byt (aAz v) ∧ (aAz v).length ≤ 520 := by
  cases v
  · exact ⟨fun x hx => by simp [aAz] at hx, by decide⟩
  · exact ⟨fun x hx => by simp [aAz] at hx; omega, by decide⟩
theorem aFU (N : Nat) : ∀ (m k n : Nat) (acc : List Int), n < 256 ^ k → k < m → k ≤ 10 → acc.length + k ≤ 1000 → Byt acc → n < 4294967296 → ∃ r, fU N m (n : Int) acc = some r ∧ Byt r ∧ r.length ≤ acc.length + k
  | 0, k, n, acc, _, hm, _, _, _, _ => by omega
  | m + 1, k, n, acc, hn, hm, hk, ha, hb, h32 => by
    rw [fU]
    by_cases h : 0 < n
    · match k, hn with
      | 0, hn => simp at hn; omega
      | k + 1, hn =>
        rw [show decide ((0 : Int) < (n : Int)) = true from decide_eq_true (by omega), if_pos rfl, oJ (by simp; omega)]
        simp only [Option.bind_some]
        rw [show shr .u32 (n : Int) 8 = some ((n / 256 : Nat) : Int) from wG n 8 h32, Option.bind_some]
        rw [Nat.pow_succ] at hn
        obtain ⟨r, h1, h2, h3⟩ := aFU N m k (n / 256) (acc ++ [IntKind.u8.wrap (n : Int)]) ((Nat.div_lt_iff_lt_mul (by omega)).2 hn) (by omega) (by omega) (by simp; omega) (hb.append (fun x hx => by simp only [List.mem_singleton] at hx; exact hx ▸ aCl _)) (by omega)
        exact ⟨r, h1, h2, by simp at h3; omega⟩
    · rw [show decide ((0 : Int) < (n : Int)) = false from decide_eq_false (by omega)]
      exact ⟨acc, rfl, hb, by omega⟩
def aCE (N : Nat) (n : Int) : List Int := (jF N n).getD []
section
variable {N : Nat} (hN : 70000 ≤ N)
include hN
theorem aHW {n : Nat} (h : n < 4294967296) : jF N (n : Int) = some (aCE N n) ∧ Byt (aCE N n) ∧ (aCE N n).length ≤ 520 := by
  obtain ⟨r, h1, h2, h3⟩ := aFU N N 4 n [] (by simpa using h) (by omega) (by omega) (by simp) (fun x hx => by simp at hx) h
  have : jF N (n : Int) = some r := by simp only [jF, h1, Option.bind_some, sT]
  rw [show aCE N n = r by simp [aCE, this]]
  exact ⟨this, h2, by simp at h3; omega⟩
theorem aEL (v : Bool) : mL N v = some (aAz v) := by
  obtain ⟨m, hm⟩ := tR (fun q => fU N q 1 []) hN
  obtain ⟨m', hm'⟩ := tR (fun q => fU N q 0 []) hN
  cases v with
  | false =>
    simp only [mL, Bool.false_eq_true, if_false, jF, hm']
    rfl
  | true =>
    simp only [mL, if_true, jF, hm]
    rw [fU, show decide ((0 : Int) < 1) = true from rfl, if_pos rfl, oJ (by simp)]
    simp only [Option.bind_some]
    rw [show shr .u32 1 8 = some 0 from by decide +kernel, Option.bind_some, fU]
    rfl
def aDv (N : Nat) (b : List Int) : Int × Int := (mG N b).getD (0, 0)
theorem aLQ (b : List Int) : mG N b = some (aDv N b) := by
  have hloop : b.length ≤ 4 → ∀ (m j : Nat) (v : Int), b.length - j < m → j ≤ b.length → ∃ r, jL N b m v (j : Int) = some r := by
    intro hl m
    induction m with
    | zero => intro j v hm _; omega
    | succ m ih =>
      intro j v hm hj
      rw [jL]
      by_cases h : j < b.length
      · obtain ⟨y, hy⟩ : ∃ y, shl .u32 (IntKind.u32.wrap b[j]) (IntKind.i64.wrap (8 * (j : Int))) = some y := by
          rw [fA (by omega) (by omega)]; unfold shl; rw [if_neg (by omega)]; exact ⟨_, rfl⟩
        rw [dT h, if_pos rfl, cY b h]
        simp only [Option.bind_some, hy, i1 (show j ≤ 100000 by omega)]
        exact ih (j + 1) _ (by omega) (by omega)
      · rw [dF h]; exact ⟨v, rfl⟩
  have hJ : b.length ≤ 4 → ∀ t, ∃ r, iK N b t = some r := by
    intro hl t
    cases t with
    | true => exact ⟨_, rfl⟩
    | false =>
      obtain ⟨r, hr⟩ := hloop hl N 0 0 (by omega) (by omega)
      rw [show ((0 : Nat) : Int) = 0 from rfl] at hr
      simp only [iK, Bool.false_eq_true, if_false, hr, Option.bind_some, pT]
      exact ⟨_, rfl⟩
  have : ∃ r, mG N b = some r := by
    unfold mG
    by_cases h : 4 < b.length
    · rw [show decide ((4 : Int) < ((b.length : Nat) : Int)) = true from decide_eq_true (by omega)]
      exact ⟨_, rfl⟩
    · rw [show decide ((4 : Int) < ((b.length : Nat) : Int)) = false from decide_eq_false (by omega)]
      simp only [Bool.false_eq_true, if_false]
      by_cases h2 : 0 < b.length
      · rw [show decide ((0 : Int) < ((b.length : Nat) : Int)) = true from decide_eq_true (by omega), if_pos rfl, fA (by omega) (by omega), show ((b.length : Nat) : Int) - 1 = ((b.length - 1 : Nat) : Int) by omega, cY b (by omega)]
        exact hJ (by omega) _
      · rw [show decide ((0 : Int) < ((b.length : Nat) : Int)) = false from decide_eq_false (by omega)]
        show ∃ r, iK N b false = some r
        exact hJ (by omega) _
  obtain ⟨r, hr⟩ := this
  simp [aDv, hr]
def aC7 (N : Nat) (gP : List Int) (now : Int) : Int := if (aDv N gP).2 != 0 then (aDv N gP).2 else if decide (now < IntKind.i64.wrap (aDv N gP).1) then 85 else 0
theorem aJs (gP : List Int) (now : Int) : nR N gP now = some (aC7 N gP now) := by
  simp only [nR, aLQ hN, Option.bind_some, aC7]
  split
  · rfl
  · split <;> rfl
def qD (b : List Int) : Bool := b.any (· != 0)
theorem aBK {b : List Int} (hl : b.length ≤ 60000) : lM N b = some (qD b) := by
  have := mV (f := i6 N b) (xs := b) (p := fun x => !(x != 0)) (r := true) (fun m j hj => by
      rw [i6, dT hj, if_pos rfl, cY b hj]
      simp only [Option.bind_some, i1 (show j ≤ 100000 by omega)]
      cases b[j] != 0 <;> rfl) (fun m j hj => by rw [i6, dF (by omega)]; rfl) N 0 (by omega) (by omega)
  rw [show ((0 : Nat) : Int) = 0 from rfl, List.drop_zero] at this
  unfold lM qD
  rw [this, List.any_eq_not_all_not]
  cases b.all fun x => !(x != 0) <;> rfl
end
structure WS (st : List (List Int)) : Prop where
  len : st.length ≤ 64
  it : ∀ x ∈ st, Byt x ∧ x.length ≤ 520
theorem WS.push {st : List (List Int)} (h : WS st) (hl : st.length < 64) {x : List Int} (hx : Byt x ∧ x.length ≤ 520) : WS (st ++ [x]) :=
  ⟨by simp; omega, fun y hy => (List.mem_append.1 hy).elim (h.it y) (fun e => by simp only [List.mem_singleton] at e; exact e ▸ hx)⟩
theorem WS.take {st : List (List Int)} (h : WS st) (k : Nat) : WS (st.take k) := ⟨by have := h.len; simp; omega, fun y hy => h.it y (List.mem_of_mem_take hy)⟩
theorem WS.set {st : List (List Int)} (h : WS st) (i : Nat) {x : List Int} (hx : Byt x ∧ x.length ≤ 520) : WS (st.set i x) := ⟨by rw [List.length_set]; exact h.len, fun y hy => (List.mem_or_eq_of_mem_set hy).elim (h.it y) (fun e => e ▸ hx)⟩
def lT (st : List (List Int)) (k : Nat) : List Int := st.getD (st.length - k) []
theorem tB {st : List (List Int)} (h : WS st) {k : Nat} (h1 : 1 ≤ k) (hk : k ≤ st.length) : Byt (lT st k) ∧ (lT st k).length ≤ 520 ∧ dB st (IntKind.i64.wrap (((st.length : Nat) : Int) - (k : Int))) = some (lT st k) := by
  have hl := h.len
  have hlt : st.length - k < st.length := by omega
  have e : lT st k = st[st.length - k] := by simp [lT, hlt]
  rw [fA (by omega) (by omega), show ((st.length : Nat) : Int) - (k : Int) = ((st.length - k : Nat) : Int) by omega, cY st hlt, e]
  exact ⟨(h.it _ (List.getElem_mem hlt)).1, (h.it _ (List.getElem_mem hlt)).2, rfl⟩
theorem aE5 {N : Nat} {m : List Int} {h a : Int} {st : List (List Int)} {br : List aS} {c : Int} (hs : st.length ≤ 64) {k : Nat} (hk : k ≤ st.length) : eO N m h a st br c (k : Int) = some (m, h, a, st.take (st.length - k), br, c) := by
  unfold eO
  rw [fA (by omega) (by omega), show ((st.length : Nat) : Int) - (k : Int) = ((st.length - k : Nat) : Int) by omega]
  have : sub st 0 ((st.length - k : Nat) : Int) = some (st.take (st.length - k)) := by
    unfold sub; rw [if_pos ⟨by omega, by omega, by omega⟩]; simp
  rw [this]; rfl
theorem aIO {l m : List (List Int)} (h : l.length + m.length ≤ 1000000) : kY 24 l m = some (l ++ m) := by
  have := p9
  exact aA0 (by omega)
theorem aBn {N : Nat} {m : List Int} {h a : Int} {st : List (List Int)} {br : List aS} {c : Int} (hs : st.length ≤ 64) {k : Nat} (hk : k ≤ st.length) (x : List Int) : dJ N m h a st br c (k : Int) x = some (m, h, a, st.take (st.length - k) ++ [x], br, c) := by
  unfold dJ
  rw [aE5 hs hk, Option.bind_some, aIO (by simp; omega)]; rfl
def aAw (st : List (List Int)) (x : List Int) : Int × List (List Int) := if 64 ≤ st.length then (4, st) else (0, st ++ [x])
theorem aE9 {N : Nat} {m : List Int} {h a : Int} {st : List (List Int)} {br : List aS} {c : Int} (x : List Int) : g8 N m h a st br c x = some ((aAw st x).1, m, h, a, (aAw st x).2, br, c) := by
  unfold g8 aAw
  by_cases hl : 64 ≤ st.length
  · rw [show decide ((64 : Int) ≤ ((st.length : Nat) : Int)) = true from decide_eq_true (by omega), if_pos rfl, if_pos hl]
  · rw [show decide ((64 : Int) ≤ ((st.length : Nat) : Int)) = false from decide_eq_false (by omega), if_neg hl, aIO (by simp; omega)]; rfl
def aDk (N : Nat) (m key sig : List Int) : Int := (eN N m 0 0 [] [] 0 key sig).getD 0
theorem aLB {N : Nat} (hN : 70000 ≤ N) {m : List Int} (hm : m.length = 32) (hb : Byt m) (h a : Int) (st : List (List Int)) (br : List aS) (c : Int) (key sig : List Int) : eN N m h a st br c key sig = some (aDk N m key sig) := by
  obtain ⟨e, he⟩ := aJd hN hm hb 0 0 [] [] 0 key sig
  have h1 : eN N m h a st br c key sig = eN N m 0 0 [] [] 0 key sig := rfl
  rw [h1, show aDk N m key sig = e by simp [aDk, he], he]
def aBk (N : Nat) (m : List Int) : List (List Int) → List (List Int) → Int → Int × Int
  | k :: ks, s :: ss, c => if aDk N m k s != 0 then (aDk N m k s, 0) else aBk N m ks ss (if decide (0 < (s.length : Int)) then c + 1 else c)
  | _, _, c => (0, c)
def vZ (N : Nat) (m : List Int) (st : List (List Int)) (eH : Int) (n : Nat) : Int × List (List Int) :=
  if (aBk N m (st.drop (st.length - n)) ((st.take (st.length - n)).drop (st.length - 2 * n)) 0).1 = 0 then (0, st.take (st.length - 2 * n) ++ [aAz (decide (eH ≤ (aBk N m (st.drop (st.length - n)) ((st.take (st.length - n)).drop (st.length - 2 * n)) 0).2))])
  else ((aBk N m (st.drop (st.length - n)) ((st.take (st.length - n)).drop (st.length - 2 * n)) 0).1, st)
section
variable {N : Nat} (hN : 70000 ≤ N) {m : List Int} (hm : m.length = 32) (hb : Byt m)
include hN hm hb
theorem aDL (h a : Int) (st : List (List Int)) (br : List aS) (c eH : Int) (n : Nat) (hn : n ≤ 100) (ks ss : List (List Int)) (hk : ks.length = n) (hs : ss.length = n) : ∀ (f j : Nat) (cnt : Int), n - j < f → j ≤ n → 0 ≤ cnt → cnt ≤ j →
    dM N m h a st br c eH (n : Int) ks ss f cnt (j : Int) = some (if (aBk N m (ks.drop j) (ss.drop j) cnt).1 = 0 then .brk (aBk N m (ks.drop j) (ss.drop j) cnt).2 else .ret ((aBk N m (ks.drop j) (ss.drop j) cnt).1, m, h, a, st, br, c))
  | 0, j, cnt, hf, _, _, _ => by omega
  | f + 1, j, cnt, hf, hj, h0, h1 => by
    rw [dM]
    by_cases hjn : j < n
    · rw [dT hjn, if_pos rfl, cY ks (by omega), cY ss (by omega)]
      simp only [Option.bind_some, aLB hN hm hb]
      rw [List.drop_eq_getElem_cons (show j < ks.length by omega), List.drop_eq_getElem_cons (show j < ss.length by omega), aBk]
      cases hv : aDk N m ks[j] ss[j] != 0 with
      | true =>
        have hv' : aDk N m ks[j] ss[j] ≠ 0 := by simpa using hv
        simp only [if_true, if_neg hv']
      | false =>
        simp only [Bool.false_eq_true, if_false, iF, i1 (show j ≤ 100000 by omega)]
        cases hl : decide (0 < ((ss[j].length : Nat) : Int)) with
        | true =>
          simp only [if_true]
          rw [fA (a := cnt + 1) (by omega) (by omega)]
          exact aDL h a st br c eH n hn ks ss hk hs f (j + 1) _ (by omega) (by omega) (by omega) (by omega)
        | false =>
          simp only [Bool.false_eq_true, if_false]
          exact aDL h a st br c eH n hn ks ss hk hs f (j + 1) _ (by omega) (by omega) (by omega) (by omega)
    · rw [dF hjn, List.drop_eq_nil_of_le (by omega)]
      rfl
theorem aFt {h a : Int} {st : List (List Int)} (hs : WS st) {br : List aS} {c eH : Int} {n : Nat} (h1 : 1 ≤ n) (hn : 2 * n ≤ st.length) : iA N m h a st br c eH (n : Int) = some ((vZ N m st eH n).1, m, h, a, (vZ N m st eH n).2, br, c) := by
  have hl := hs.len
  have e1 : tY st (IntKind.i64.wrap (((st.length : Nat) : Int) - (n : Int))) ((st.length : Nat) : Int) = some (st.drop (st.length - n)) := by
    rw [fA (by omega) (by omega), show ((st.length : Nat) : Int) - (n : Int) = ((st.length - n : Nat) : Int) by omega]
    unfold tY
    rw [if_pos ⟨by omega, by omega, by omega⟩, Int.toNat_natCast, Int.toNat_natCast, List.take_of_length_le (Nat.le_refl _)]
  have e2 : tY st (IntKind.i64.wrap (((st.length : Nat) : Int) - (IntKind.i64.wrap (2 * (n : Int))))) (IntKind.i64.wrap (((st.length : Nat) : Int) - (n : Int))) = some ((st.take (st.length - n)).drop (st.length - 2 * n)) := by
    rw [fA (a := 2 * (n : Int)) (by omega) (by omega), fA (a := ((st.length : Nat) : Int) - (n : Int)) (by omega) (by omega), fA (by omega) (by omega), show ((st.length : Nat) : Int) - (n : Int) = ((st.length - n : Nat) : Int) by omega, show ((st.length : Nat) : Int) - 2 * (n : Int) = ((st.length - 2 * n : Nat) : Int) by omega]
    unfold tY
    rw [if_pos ⟨by omega, by omega, by omega⟩, Int.toNat_natCast, Int.toNat_natCast]
  have lp := aDL hN hm hb h a st br c eH n (by omega) (st.drop (st.length - n)) ((st.take (st.length - n)).drop (st.length - 2 * n)) (by simp; omega) (by simp; omega) N 0 0 (by omega) (by omega) (by omega) (by omega)
  rw [List.drop_zero, List.drop_zero, show ((0 : Nat) : Int) = 0 from rfl] at lp
  simp only [iA, e1, e2, lp, Option.bind_some]
  unfold vZ
  by_cases hz : (aBk N m (st.drop (st.length - n)) ((st.take (st.length - n)).drop (st.length - 2 * n)) 0).1 = 0
  · rw [if_pos hz, if_pos hz]
    simp only [kC, aEL hN, Option.bind_some]
    rw [fA (a := 2 * (n : Int)) (by omega) (by omega), show 2 * (n : Int) = ((2 * n : Nat) : Int) by omega, aBn hl hn]
    rfl
  · rw [if_neg hz, if_neg hz]
end
end Go.Proofs.YtagblcjgjlihaaaDoor
set_option linter.unusedSimpArgs false
set_option linter.unusedVariables false
set_option linter.unusedSectionVars false
namespace Go.Proofs.YtagblcjgjlihaaaDoor
open Go Go.Vm
def eqE (a b : List Int) : Bool := (yQ a).toList == (yQ b).toList
def rX (N : Nat) (m : List Int) (h a : Int) (o : bM) (st : List (List Int)) : Int × List (List Int) :=
  if o.Code = 1 then aAw st o.Data
  else if o.Code = 2 then aAw st (lT st 1)
  else if o.Code = 3 then (0, st.take (st.length - 1))
  else if o.Code = 4 then (0, (st.set (st.length - 1) (lT st 2)).set (st.length - 2) (lT st 1))
  else if o.Code = 5 then (0, st.take (st.length - 2) ++ [aAz (eqE (lT st 1) (lT st 2))])
  else if o.Code = 6 then (0, st.take (st.length - 1) ++ [aAz (!qD (lT st 1))])
  else if o.Code = 7 then (if qD (lT st 1) then (0, st.take (st.length - 1)) else (84, st))
  else if o.Code = 8 then (0, st.take (st.length - 1) ++ [sha256 N (lT st 1)])
  else if o.Code = 9 then aAw st (aCE N ((lT st 1).length : Nat))
  else if o.Code = 10 then vZ N m st 1 1
  else if o.Code = 11 then vZ N m st o.M o.N.toNat
  else if o.Code = 12 then (aC7 N (lT st 1) h, st)
  else if o.Code = 13 then (aC7 N (lT st 1) a, st)
  else if o.Code = 17 then (84, st)
  else (0, st)
def rN (o : bM) : Int :=
  if o.Code = 1 ∨ o.Code = 15 ∨ o.Code = 16 ∨ o.Code = 17 then 0 else if o.Code = 4 ∨ o.Code = 5 ∨ o.Code = 10 then 2 else if o.Code = 11 then 2 * o.N else 1
def o8 (o : bM) : Int := if o.Code = 8 then 6 else if o.Code = 10 then 21 else if o.Code = 11 then 1 + 20 * o.N else 1
theorem kW {x y : Int} (h : x ≠ y) : (x == y) = false := by simpa using h
theorem aKA (N : Nat) {o : bM} (ho : VOp o) : sG N o.Code o.Data o.M o.N = some (o8 o) := by
  unfold sG o8
  by_cases h8 : o.Code = 8
  · rw [h8]; rfl
  · rw [kW h8, if_neg h8]
    by_cases h10 : o.Code = 10
    · rw [h10]; rfl
    · rw [kW h10, if_neg h10]
      by_cases h11 : o.Code = 11
      · have := ho.multi h11
        rw [if_pos h11, h11, fA (a := 20 * o.N) (by omega) (by omega), fA (by omega) (by omega)]; rfl
      · rw [kW h11, if_neg h11]; rfl
theorem aJq {o : bM} (ho : VOp o) : 1 ≤ o8 o ∧ o8 o ≤ 301 := by
  unfold o8
  by_cases h11 : o.Code = 11
  · have := ho.multi h11
    rw [if_neg (by omega), if_neg (by omega), if_pos h11]; omega
  · rw [if_neg h11]
    split
    · omega
    · split <;> omega
theorem aJ9 (N : Nat) {o : bM} (ho : VOp o) : r4 N o.Code o.Data o.M o.N = some (rN o) := by
  unfold r4 rN kE mA
  by_cases h11 : o.Code = 11
  · have := ho.multi h11
    simp only [h11]
    rw [fA (a := 2 * o.N) (by omega) (by omega)]
    simp
  · by_cases h1 : o.Code = 1
    · simp [h1]
    · by_cases h15 : o.Code = 15
      · simp [h15]
      · by_cases h16 : o.Code = 16
        · simp [h16]
        · by_cases h17 : o.Code = 17
          · simp [h17]
          · by_cases h4 : o.Code = 4
            · simp [h4]
            · by_cases h5 : o.Code = 5
              · simp [h5]
              · by_cases h10 : o.Code = 10
                · simp [h10]
                · simp [h1, h15, h16, h17, h4, h5, h10, h11]
section
variable {N : Nat} (hN : 70000 ≤ N) {m : List Int} (hm : m.length = 32) (hb : Byt m)
include hN hm hb
theorem aDz {st : List (List Int)} (hs : WS st) {x : List Int} (hx : Byt x ∧ x.length ≤ 520) : WS (aAw st x).2 := by
  unfold aAw
  by_cases h : 64 ≤ st.length
  · rw [if_pos h]; exact hs
  · rw [if_neg h]; exact hs.push (by omega) hx
theorem aDN {st : List (List Int)} (hs : WS st) (eH : Int) {n : Nat} (h1 : 1 ≤ n) (hn : 2 * n ≤ st.length) : WS (vZ N m st eH n).2 := by
  unfold vZ
  split
  · have := hs.len
    exact (hs.take _).push (by simp; omega) (aDe _)
  · exact hs
theorem aKr {h a : Int} {o : bM} (ho : VOp o) {st : List (List Int)} (hs : WS st) (hn : rN o ≤ (st.length : Int)) : WS (rX N m h a o st).2 := by
  have hl := hs.len
  have rep : ∀ (k : Nat) (x : List Int), 1 ≤ k → k ≤ st.length → (Byt x ∧ x.length ≤ 520) → WS (st.take (st.length - k) ++ [x]) := fun k x h1 hk hx => (hs.take _).push (by simp; omega) hx
  unfold rX
  unfold rN at hn
  by_cases h1 : o.Code = 1
  · rw [if_pos h1]
    exact aDz hN hm hb hs ⟨ho.data.1, by have := ho.data.2; omega⟩
  rw [if_neg h1]
  by_cases h2 : o.Code = 2
  · simp [h2] at hn
    have := tB hs (k := 1) (by omega) (by omega)
    rw [if_pos h2]
    exact aDz hN hm hb hs ⟨this.1, this.2.1⟩
  rw [if_neg h2]
  by_cases h3 : o.Code = 3
  · rw [if_pos h3]; exact hs.take _
  rw [if_neg h3]
  by_cases h4 : o.Code = 4
  · simp [h4] at hn
    have q1 := tB hs (k := 1) (by omega) (by omega)
    have q2 := tB hs (k := 2) (by omega) (by omega)
    rw [if_pos h4]
    exact (hs.set _ ⟨q2.1, q2.2.1⟩).set _ ⟨q1.1, q1.2.1⟩
  rw [if_neg h4]
  by_cases h5 : o.Code = 5
  · simp [h5] at hn
    rw [if_pos h5]
    exact rep 2 _ (by omega) (by omega) (aDe _)
  rw [if_neg h5]
  by_cases h6 : o.Code = 6
  · simp [h6] at hn
    rw [if_pos h6]
    exact rep 1 _ (by omega) (by omega) (aDe _)
  rw [if_neg h6]
  by_cases h7 : o.Code = 7
  · rw [if_pos h7]
    cases qD (lT st 1)
    · exact hs
    · exact hs.take _
  rw [if_neg h7]
  by_cases h8 : o.Code = 8
  · simp [h8] at hn
    rw [if_pos h8]
    exact rep 1 _ (by omega) (by omega) ⟨pV _ _, by rw [oD]; omega⟩
  rw [if_neg h8]
  by_cases h9 : o.Code = 9
  · simp [h9] at hn
    have := tB hs (k := 1) (by omega) (by omega)
    rw [if_pos h9]
    exact aDz hN hm hb hs (aHW hN (n := (lT st 1).length) (by omega)).2
  rw [if_neg h9]
  by_cases h10 : o.Code = 10
  · simp [h10] at hn
    rw [if_pos h10]
    exact aDN hN hm hb hs _ (by omega) (by omega)
  rw [if_neg h10]
  by_cases h11 : o.Code = 11
  · have := ho.multi h11
    simp [h11] at hn
    rw [if_pos h11]
    exact aDN hN hm hb hs _ (by omega) (by omega)
  rw [if_neg h11]
  by_cases h12 : o.Code = 12
  · rw [if_pos h12]; exact hs
  rw [if_neg h12]
  by_cases h13 : o.Code = 13
  · rw [if_pos h13]; exact hs
  rw [if_neg h13]
  by_cases h17 : o.Code = 17
  · rw [if_pos h17]; exact hs
  rw [if_neg h17]; exact hs
theorem aKp {h a : Int} {o : bM} (ho : VOp o) {st : List (List Int)} (hs : WS st) (hn : rN o ≤ (st.length : Int)) (br : List aS) (c : Int) :
    kK N m h a st br c o.Code o.Data o.M o.N = some ((rX N m h a o st).1, m, h, a, (rX N m h a o st).2, br, c) := by
  have hl := hs.len
  have top : 1 ≤ st.length → cT N m h a st br c = some (lT st 1) := fun h1 => by
    unfold cT
    rw [show ((st.length : Nat) : Int) - 1 = ((st.length : Nat) : Int) - ((1 : Nat) : Int) from rfl, (tB hs (k := 1) (by omega) h1).2.2]; rfl
  have len1 : 1 ≤ st.length → (lT st 1).length ≤ 520 ∧ Byt (lT st 1) := fun h1 => ⟨(tB hs (k := 1) (by omega) h1).2.1, (tB hs (k := 1) (by omega) h1).1⟩
  have rep1 : ∀ x, 1 ≤ st.length → dJ N m h a st br c 1 x = some (m, h, a, st.take (st.length - 1) ++ [x], br, c) := fun x h1 => aBn (k := 1) hl h1 x
  have rep2 : ∀ x, 2 ≤ st.length → dJ N m h a st br c 2 x = some (m, h, a, st.take (st.length - 2) ++ [x], br, c) := fun x h1 => aBn (k := 2) hl h1 x
  have drp : 1 ≤ st.length → eO N m h a st br c 1 = some (m, h, a, st.take (st.length - 1), br, c) := fun h1 => aE5 (k := 1) hl h1
  have i2 : 2 ≤ st.length → dB st (IntKind.i64.wrap (((st.length : Nat) : Int) - 2)) = some (lT st 2) := fun h2 => (tB hs (k := 2) (by omega) h2).2.2
  have i1' : 1 ≤ st.length → dB st (IntKind.i64.wrap (((st.length : Nat) : Int) - 1)) = some (lT st 1) := fun h2 => (tB hs (k := 1) (by omega) h2).2.2
  unfold rX kK
  unfold rN at hn
  by_cases h1 : o.Code = 1
  · rw [if_pos h1, h1, aE9]; rfl
  rw [if_neg h1, kW h1]
  by_cases h2 : o.Code = 2
  · simp [h2] at hn
    rw [if_pos h2, h2, top (by omega)]
    simp only [Option.bind_some, aE9]; rfl
  rw [if_neg h2, kW h2]
  by_cases h3 : o.Code = 3
  · simp [h3] at hn
    rw [if_pos h3, h3, drp (by omega)]; rfl
  rw [if_neg h3, kW h3]
  by_cases h4 : o.Code = 4
  · simp [h4] at hn
    rw [if_pos h4, h4, i2 (by omega), i1' (by omega)]
    have e1 : IntKind.i64.wrap (((st.length : Nat) : Int) - 1) = ((st.length - 1 : Nat) : Int) := by rw [fA (by omega) (by omega)]; omega
    have e2 : IntKind.i64.wrap (((st.length : Nat) : Int) - 2) = ((st.length - 2 : Nat) : Int) := by rw [fA (by omega) (by omega)]; omega
    simp only [e1, e2, Int.toNat_natCast, Option.bind_some]
    rw [cY _ (show st.length - 2 < (st.set (st.length - 1) (lT st 2)).length by rw [List.length_set]; omega)]
    rfl
  rw [if_neg h4, kW h4]
  by_cases h5 : o.Code = 5
  · simp [h5] at hn
    rw [if_pos h5, h5, top (by omega), i2 (by omega)]
    simp only [Option.bind_some, wV, aEL hN, rep2 _ (show 2 ≤ st.length by omega)]
    rfl
  rw [if_neg h5, kW h5]
  by_cases h6 : o.Code = 6
  · simp [h6] at hn
    rw [if_pos h6, h6, top (by omega)]
    simp only [Option.bind_some, aBK hN (show (lT st 1).length ≤ 60000 by have := (len1 (by omega)).1; omega), aEL hN, rep1 _ (show 1 ≤ st.length by omega)]
    rfl
  rw [if_neg h6, kW h6]
  by_cases h7 : o.Code = 7
  · simp [h7] at hn
    rw [if_pos h7, h7, top (by omega)]
    simp only [Option.bind_some, aBK hN (show (lT st 1).length ≤ 60000 by have := (len1 (by omega)).1; omega), drp (show 1 ≤ st.length by omega)]
    cases qD (lT st 1) <;> rfl
  rw [if_neg h7, kW h7]
  by_cases h8 : o.Code = 8
  · simp [h8] at hn
    rw [if_pos h8, h8, top (by omega)]
    simp only [Option.bind_some, aDV N hN _ (len1 (by omega)).2 (show (lT st 1).length ≤ 1000000 by have := (len1 (by omega)).1; omega), jT (oD N (lT st 1)), rep1 _ (show 1 ≤ st.length by omega)]
    rfl
  rw [if_neg h8, kW h8]
  by_cases h9 : o.Code = 9
  · simp [h9] at hn
    have := (len1 (by omega)).1
    rw [if_pos h9, h9, top (by omega)]
    simp only [Option.bind_some, aKM _ (show (lT st 1).length < 4294967296 by omega), (aHW hN (show (lT st 1).length < 4294967296 by omega)).1, aE9]
    rfl
  rw [if_neg h9, kW h9]
  by_cases h10 : o.Code = 10
  · simp [h10] at hn
    have := aFt hN hm hb (h := h) (a := a) hs (br := br) (c := c) (eH := 1) (n := 1) (by omega) (by omega)
    rw [show ((1 : Nat) : Int) = 1 from rfl] at this
    rw [if_pos h10, h10, this]; rfl
  rw [if_neg h10, kW h10]
  by_cases h11 : o.Code = 11
  · have hM := ho.multi h11
    simp [h11] at hn
    have := aFt hN hm hb (h := h) (a := a) hs (br := br) (c := c) (eH := o.M) (n := o.N.toNat) (by omega) (by omega)
    rw [show ((o.N.toNat : Nat) : Int) = o.N by omega] at this
    rw [if_pos h11, h11, this]; rfl
  rw [if_neg h11, kW h11]
  by_cases h12 : o.Code = 12
  · simp [h12] at hn
    rw [if_pos h12, h12, top (by omega)]
    simp only [Option.bind_some, aJs hN]; rfl
  rw [if_neg h12, kW h12]
  by_cases h13 : o.Code = 13
  · simp [h13] at hn
    rw [if_pos h13, h13, top (by omega)]
    simp only [Option.bind_some, aJs hN]; rfl
  rw [if_neg h13, kW h13]
  by_cases h17 : o.Code = 17
  · rw [if_pos h17, h17]; rfl
  rw [if_neg h17, kW h17]; rfl
end
end Go.Proofs.YtagblcjgjlihaaaDoor
set_option linter.unusedSimpArgs false
set_option linter.unusedVariables false
set_option linter.unusedSectionVars false
namespace Go.Proofs.YtagblcjgjlihaaaDoor
open Go Go.Vm
structure St where
  st : List (List Int)
  br : List aS
  c : Int
def aBh (br : List aS) : aS := br.getD (br.length - 1) ⟨true, true⟩
def aCy (o : bM) (br : List aS) : Bool := if o.Code = 15 ∨ o.Code = 16 then (aBh br).outer else (aBh br).outer && (aBh br).taken
def yS (N : Nat) (m : List Int) (h a : Int) (o : bM) (k : Bool) (s : St) : Int × St :=
  if o.Code = 14 then (0, ⟨if k then s.st.take (s.st.length - 1) else s.st, s.br ++ [⟨k, k && qD (lT s.st 1)⟩], s.c⟩)
  else if o.Code = 15 then (0, ⟨s.st, s.br.set (s.br.length - 1) ⟨(aBh s.br).outer, !(aBh s.br).taken⟩, s.c⟩)
  else if o.Code = 16 then (0, ⟨s.st, s.br.take (s.br.length - 1), s.c⟩)
  else if k then ((rX N m h a o s.st).1, ⟨(rX N m h a o s.st).2, s.br, s.c⟩) else (0, s)
def nJ (N : Nat) (m : List Int) (h a : Int) (o : bM) (s : St) : Int × St :=
  if aCy o s.br then
    (if 500 < s.c + o8 o then (83, s) else if (s.st.length : Int) < rN o then (81, s) else yS N m h a o true ⟨s.st, s.br, s.c + o8 o⟩)
  else yS N m h a o false s
def kU (N : Nat) (m : List Int) (h a : Int) : List bM → St → Int × St
  | [], s => (0, s)
  | o :: r, s => if (nJ N m h a o s).1 = 0 then kU N m h a r (nJ N m h a o s).2 else nJ N m h a o s
def oC : List bM → List Bool → Option (List Bool)
  | [], l => some l
  | o :: r, l =>
    if o.Code = 14 then oC r (l ++ [false])
    else if o.Code = 15 then (if l = [] then none else if l.getD (l.length - 1) true = true then none else oC r (l.set (l.length - 1) true))
    else if o.Code = 16 then (if l = [] then none else oC r (l.take (l.length - 1)))
    else oC r l
theorem aCH {n : Nat} (h1 : 1 ≤ n) (h2 : n ≤ 100000) : IntKind.i64.wrap ((n : Int) - 1) = ((n - 1 : Nat) : Int) := by rw [fA (by omega) (by omega)]; omega
theorem vT {α : Type} {l : List α} : l = [] ↔ l.length = 0 := by cases l <;> simp
def aMl : Option (List Bool) → LR (List Bool) Bool
  | none => .ret false
  | some l => .brk l
theorem aFB (N : Nat) (l : List bM) (hl : l.length ≤ 1000) : ∀ (f j : Nat) (op : List Bool), l.length - j < f → j ≤ l.length → op.length ≤ j → d6 N l f (j : Int) op = some (aMl (oC (l.drop j) op))
  | 0, j, op, hf, _, _ => by omega
  | f + 1, j, op, hf, hj, ho => by
    rw [d6]
    by_cases h : j < l.length
    · rw [dT h, if_pos rfl, cY l h, List.drop_eq_getElem_cons h]
      simp only [Option.bind_some, oC, jH, mZ, i1 (show j ≤ 100000 by omega)]
      have ih := fun op' (ho' : op'.length ≤ j + 1) => aFB N l hl f (j + 1) op' (by omega) (by omega) ho'
      by_cases h14 : l[j].Code = 14
      · have := p9
        rw [if_pos h14, h14, aA0 (by simp; omega)]
        exact ih _ (by simp; omega)
      rw [if_neg h14, kW h14]
      by_cases h15 : l[j].Code = 15
      · rw [if_pos h15, h15]
        by_cases h0 : op = []
        · rw [if_pos h0, h0]; rfl
        · have h0' : 1 ≤ op.length := by have := mt vT.2 h0; omega
          rw [if_neg h0, aCH h0' (by omega), show decide ((((op.length - 1 : Nat)) : Int) < 0) = false from decide_eq_false (by omega), cY op (show op.length - 1 < op.length by omega), show op.getD (op.length - 1) true = op[op.length - 1] by simp [show op.length - 1 < op.length by omega]]
          cases hh : op[op.length - 1]
          · simp only [Bool.false_eq_true, if_false, Option.bind_some, Int.toNat_natCast, show ((15 : Int) == 14) = false from rfl, show ((15 : Int) == 15) = true from rfl, if_true]
            exact ih _ (by simp; omega)
          · rfl
      rw [if_neg h15, kW h15]
      by_cases h16 : l[j].Code = 16
      · rw [if_pos h16, h16]
        by_cases h0 : op = []
        · rw [if_pos h0, h0]; rfl
        · have h0' : 1 ≤ op.length := by have := mt vT.2 h0; omega
          have e : sub op 0 ((op.length - 1 : Nat) : Int) = some (op.take (op.length - 1)) := by
            unfold sub; rw [if_pos ⟨by omega, by omega, by omega⟩]; simp
          rw [if_neg h0, aCH h0' (by omega), show decide ((((op.length - 1 : Nat)) : Int) < 0) = false from decide_eq_false (by omega), e]
          exact ih _ (by simp; omega)
      rw [if_neg h16, kW h16]
      exact ih _ (by omega)
    · rw [dF h, List.drop_eq_nil_of_le (by omega)]; rfl
def uJ (l : List bM) : Bool := match oC l [] with | none => false | some q => (q.length : Int) == 0
theorem aJu {N : Nat} (hN : 70000 ≤ N) {l : List bM} (hl : l.length ≤ 1000) : qB N l = some (uJ l) := by
  have := aFB N l hl N 0 [] (by omega) (by omega) (by simp)
  rw [List.drop_zero, show ((0 : Nat) : Int) = 0 from rfl] at this
  unfold qB uJ
  rw [this]
  cases oC l [] <;> rfl
section
variable {N : Nat} (hN : 70000 ≤ N) {m : List Int} (hm : m.length = 32) (hb : Byt m)
include hN hm hb
theorem aLh {h a : Int} {o : bM} (ho : VOp o) {s : St} (hs : WS s.st) (hbr : s.br.length ≤ 1000) (hc : 0 ≤ s.c ∧ s.c ≤ 500) (h15 : o.Code = 15 ∨ o.Code = 16 → s.br ≠ []) :
    ∃ s', g7 N m h a s.st s.br s.c o.Code o.Data o.M o.N = some ((nJ N m h a o s).1, m, h, a, s'.st, s'.br, s'.c) ∧ ((nJ N m h a o s).1 = 0 → s' = (nJ N m h a o s).2 ∧ WS s'.st ∧ s.c ≤ s'.c ∧ s'.c ≤ 500 ∧ ((o.Code = 14 → s'.br.length = s.br.length + 1) ∧ (o.Code = 16 → s'.br.length = s.br.length - 1) ∧ (o.Code ≠ 14 → o.Code ≠ 16 → s'.br.length = s.br.length))) := by
  have hp := aJq ho
  have hbody : ∀ (k : Bool) (c : Int), s.c ≤ c → c ≤ 500 → (k = true → rN o ≤ (s.st.length : Int)) → ∃ s', gV N m h a s.st s.br o.Code o.Data o.M o.N k c = some ((yS N m h a o k ⟨s.st, s.br, c⟩).1, m, h, a, s'.st, s'.br, s'.c) ∧ s' = (yS N m h a o k ⟨s.st, s.br, c⟩).2 ∧ WS s'.st ∧ s.c ≤ s'.c ∧ s'.c ≤ 500 ∧ ((o.Code = 14 → s'.br.length = s.br.length + 1) ∧ (o.Code = 16 → s'.br.length = s.br.length - 1) ∧ (o.Code ≠ 14 → o.Code ≠ 16 → s'.br.length = s.br.length)) := by
    intro k c hc1 hc2 hk
    refine ⟨_, ?_, rfl, ?_⟩
    all_goals unfold yS
    · unfold gV
      by_cases h14 : o.Code = 14
      · rw [if_pos h14, h14]
        have := p9
        cases k with
        | false =>
          simp only [Bool.false_eq_true, if_false, show ((14 : Int) == 14) = true from rfl, if_true]
          rw [aA0 (by simp; omega)]; rfl
        | true =>
          have hn := hk rfl
          unfold rN at hn
          simp [h14] at hn
          have q := tB hs (k := 1) (by omega) (by omega)
          have top : cT N m h a s.st s.br c = some (lT s.st 1) := by
            unfold cT
            rw [show ((s.st.length : Nat) : Int) - 1 = ((s.st.length : Nat) : Int) - ((1 : Nat) : Int) from rfl, q.2.2]; rfl
          simp only [show ((14 : Int) == 14) = true from rfl, if_true, top, Option.bind_some, aBK hN (show (lT s.st 1).length ≤ 60000 by omega)]
          rw [aA0 (by simp; omega)]
          simp only [Option.bind_some, jC, if_true]
          rw [show eO N m h a s.st (s.br ++ [⟨true, qD (lT s.st 1)⟩]) c 1 = _ from aE5 (k := 1) hs.len (by omega)]
          rfl
      rw [if_neg h14, kW h14]
      by_cases h15' : o.Code = 15
      · have h0 := h15 (.inl h15')
        have h0' : 1 ≤ s.br.length := by have := mt vT.2 h0; omega
        rw [if_pos h15', h15', aCH h0' (by omega), cY s.br (show s.br.length - 1 < s.br.length by omega)]
        simp only [show aBh s.br = s.br[s.br.length - 1] by simp [aBh, show s.br.length - 1 < s.br.length by omega], Int.toNat_natCast]
        rfl
      rw [if_neg h15', kW h15']
      by_cases h16 : o.Code = 16
      · have h0 := h15 (.inr h16)
        have h0' : 1 ≤ s.br.length := by have := mt vT.2 h0; omega
        have e : sub s.br 0 ((s.br.length - 1 : Nat) : Int) = some (s.br.take (s.br.length - 1)) := by
          unfold sub; rw [if_pos ⟨by omega, by omega, by omega⟩]; simp
        rw [if_pos h16, h16, aCH h0' (by omega), e]; rfl
      rw [if_neg h16, kW h16]
      cases k with
      | true => simp only [Bool.false_eq_true, if_false, if_true, aKp hN hm hb ho hs (hk rfl), Option.bind_some]
      | false => rfl
    · by_cases h14 : o.Code = 14
      · simp only [if_pos h14]
        refine ⟨?_, hc1, hc2, fun _ => by simp, fun h => by omega, fun h => absurd h14 h⟩
        cases k
        · exact hs
        · exact hs.take _
      simp only [if_neg h14]
      by_cases h15' : o.Code = 15
      · simp only [if_pos h15']
        exact ⟨hs, hc1, hc2, fun h => by omega, fun h => by omega, fun _ _ => by simp⟩
      simp only [if_neg h15']
      by_cases h16 : o.Code = 16
      · simp only [if_pos h16]
        exact ⟨hs, hc1, hc2, fun h => by omega, fun h => by simp, fun _ h => by omega⟩
      simp only [if_neg h16]
      cases k with
      | true => exact ⟨aKr hN hm hb ho hs (hk rfl), hc1, hc2, fun h => by omega, fun h => by omega, fun _ _ => rfl⟩
      | false => exact ⟨hs, hc1, hc2, fun h => by omega, fun h => by omega, fun _ _ => rfl⟩
  have hJ : g7 N m h a s.st s.br s.c o.Code o.Data o.M o.N = gT N m h a s.st s.br s.c o.Code o.Data o.M o.N (aCy o s.br) := by
    unfold g7 l9 aCy
    by_cases h0 : s.br = []
    · have : ¬ (o.Code = 15 ∨ o.Code = 16) := fun h => h15 h h0
      rw [h0, if_neg this]
      simp only [gR, kW (fun h => this (.inl h)), kW (fun h => this (.inr h))]
      rfl
    · have h0' : 1 ≤ s.br.length := by have := mt vT.2 h0; omega
      rw [show (((s.br.length : Nat) : Int) == 0) = false from kW (by omega), aCH h0' (by omega), cY s.br (show s.br.length - 1 < s.br.length by omega), show aBh s.br = s.br[s.br.length - 1] by simp [aBh, show s.br.length - 1 < s.br.length by omega]]
      simp only [gR, aCH h0' (show s.br.length ≤ 100000 by omega), cY s.br (show s.br.length - 1 < s.br.length by omega), iM, Option.bind_some, Bool.false_eq_true, if_false]
      by_cases h15' : o.Code = 15
      · rw [if_pos (show o.Code = 15 ∨ o.Code = 16 from .inl h15'), h15']
        cases s.br[s.br.length - 1].outer <;> rfl
      · by_cases h16 : o.Code = 16
        · rw [if_pos (show o.Code = 15 ∨ o.Code = 16 from .inr h16), h16]
          cases s.br[s.br.length - 1].outer <;> rfl
        · rw [if_neg (show ¬ (o.Code = 15 ∨ o.Code = 16) by omega), kW h15', kW h16]
          cases s.br[s.br.length - 1].outer <;> rfl
  rw [hJ]
  unfold gT nJ
  cases aCy o s.br with
  | false =>
    obtain ⟨s', h1, h2⟩ := hbody false s.c (Int.le_refl _) hc.2 (fun h => by cases h)
    exact ⟨s', h1, fun _ => h2⟩
  | true =>
    simp only [if_true, aKA N ho, aJ9 N ho, Option.bind_some]
    rw [fA (a := s.c + o8 o) (by omega) (by omega)]
    by_cases h5 : 500 < s.c + o8 o
    · rw [decide_eq_true h5, if_pos h5]
      exact ⟨⟨s.st, s.br, s.c + o8 o⟩, rfl, fun h => by cases h⟩
    · rw [decide_eq_false h5, if_neg h5]
      simp only [Bool.false_eq_true, if_false]
      by_cases h6 : (s.st.length : Int) < rN o
      · rw [decide_eq_true h6, if_pos h6]
        exact ⟨⟨s.st, s.br, s.c + o8 o⟩, rfl, fun h => by cases h⟩
      · rw [decide_eq_false h6, if_neg h6]
        obtain ⟨s', h1, h2⟩ := hbody true (s.c + o8 o) (by omega) (by omega) (fun _ => by omega)
        exact ⟨s', h1, fun _ => h2⟩
end
end Go.Proofs.YtagblcjgjlihaaaDoor
set_option linter.unusedSimpArgs false
set_option linter.unusedVariables false
set_option linter.unusedSectionVars false
namespace Go.Proofs.YtagblcjgjlihaaaDoor
open Go Go.Vm
theorem aJF {o : bM} {r : List bM} {l q : List Bool} (h : oC (o :: r) l = some q) : (o.Code = 15 ∨ o.Code = 16 → l ≠ []) ∧ ∃ l', oC r l' = some q ∧ (o.Code = 14 → l'.length = l.length + 1) ∧ (o.Code = 16 → l'.length = l.length - 1) ∧ (o.Code ≠ 14 → o.Code ≠ 16 → l'.length = l.length) := by
  simp only [oC] at h
  by_cases h14 : o.Code = 14
  · rw [if_pos h14] at h
    exact ⟨fun h => by omega, _, h, fun _ => by simp, fun h => by omega, fun h => absurd h14 h⟩
  rw [if_neg h14] at h
  by_cases h15 : o.Code = 15
  · rw [if_pos h15] at h
    by_cases h0 : l = []
    · rw [if_pos h0] at h; cases h
    · rw [if_neg h0] at h
      by_cases h1 : l.getD (l.length - 1) true = true
      · rw [if_pos h1] at h; cases h
      · rw [if_neg h1] at h
        exact ⟨fun _ => h0, _, h, fun h => by omega, fun h => by omega, fun _ _ => by simp⟩
  rw [if_neg h15] at h
  by_cases h16 : o.Code = 16
  · rw [if_pos h16] at h
    by_cases h0 : l = []
    · rw [if_pos h0] at h; cases h
    · rw [if_neg h0] at h
      exact ⟨fun _ => h0, _, h, fun h => by omega, fun h => by simp, fun _ h => by omega⟩
  rw [if_neg h16] at h
  exact ⟨fun h => by omega, _, h, fun h => by omega, fun h => by omega, fun _ _ => rfl⟩
structure OkS (s : St) : Prop where
  ws : WS s.st
  c : 0 ≤ s.c ∧ s.c ≤ 500
def aKw (m : List Int) (h a : Int) (x : Int × St) : LR ((List Int) × Int × Int × Int × (List (List Int)) × (List aS)) ((List (List Int)) × Int × Int) :=
  if x.1 = 0 then .brk (m, h, a, x.2.c, x.2.st, x.2.br) else .ret ([], 0, x.1)
section
variable {N : Nat} (hN : 70000 ≤ N) {m : List Int} (hm : m.length = 32) (hb : Byt m)
include hN hm hb
theorem aG0 {h a : Int} {o : bM} {r : List bM} (ho : VOp o) {s : St} (hs : OkS s) {l q : List Bool} (hl : s.br.length = l.length) (hn : oC (o :: r) l = some q) (hbr : s.br.length ≤ 1000) :
    ∃ s', g7 N m h a s.st s.br s.c o.Code o.Data o.M o.N = some ((nJ N m h a o s).1, m, h, a, s'.st, s'.br, s'.c) ∧ ((nJ N m h a o s).1 = 0 → s' = (nJ N m h a o s).2 ∧ OkS s' ∧ s.c ≤ s'.c ∧ s'.br.length ≤ s.br.length + 1 ∧ ∃ l', s'.br.length = l'.length ∧ oC r l' = some q) := by
  obtain ⟨n1, l', n2, n3, n4, n5⟩ := aJF hn
  obtain ⟨s', h1, h2⟩ := aLh hN hm hb (h := h) (a := a) ho hs.ws hbr hs.c (fun h e => n1 h (vT.2 (by rw [← hl, e]; rfl)))
  refine ⟨s', h1, fun he => ?_⟩
  obtain ⟨e, g1, g2, g3, g4, g5, g6⟩ := h2 he
  have hc := hs.c
  refine ⟨e, ⟨g1, by omega, g3⟩, g2, ?_, l', ?_, n2⟩
  · by_cases h14 : o.Code = 14
    · rw [g4 h14]; omega
    · by_cases h16 : o.Code = 16
      · rw [g5 h16]; omega
      · rw [g6 h14 h16]; omega
  · by_cases h14 : o.Code = 14
    · rw [g4 h14, n3 h14, hl]
    · by_cases h16 : o.Code = 16
      · rw [g5 h16, n4 h16, hl]
      · rw [g6 h14 h16, n5 h14 h16, hl]
theorem aIc {h a : Int} : ∀ (r : List bM) (s : St) (l q : List Bool), (∀ o ∈ r, VOp o) → OkS s → s.br.length = l.length → oC r l = some q → s.br.length + r.length ≤ 1000 → (kU N m h a r s).1 = 0 → OkS (kU N m h a r s).2 ∧ s.c ≤ (kU N m h a r s).2.c ∧ (kU N m h a r s).2.br.length = q.length
  | [], s, l, q, _, hs, hl, hn, _, _ => by
    injection hn with hn
    exact ⟨hs, Int.le_refl _, hn ▸ hl⟩
  | o :: r, s, l, q, hv, hs, hl, hn, hlen, he => by
    simp only [List.length_cons] at hlen
    obtain ⟨s', h1, h2⟩ := aG0 hN hm hb (h := h) (a := a) (hv o (by simp)) hs hl hn (by omega)
    simp only [kU] at he ⊢
    by_cases h0 : (nJ N m h a o s).1 = 0
    · simp only [if_pos h0] at he ⊢
      obtain ⟨e, g1, g2, g3, l', g4, g5⟩ := h2 h0
      rw [← e] at he ⊢
      obtain ⟨k1, k2, k3⟩ := aIc r s' l' q (fun o ho => hv o (by simp [ho])) g1 g4 g5 (by omega) he
      exact ⟨k1, by omega, k3⟩
    · rw [if_neg h0] at he
      exact absurd he h0
theorem aGP {h a : Int} (ops : List bM) (e : Int) (hv : ∀ o ∈ ops, VOp o) (ho : ops.length ≤ 600) : ∀ (f j : Nat) (s : St) (l q : List Bool), ops.length - j < f → j ≤ ops.length → OkS s → s.br.length = l.length → oC (ops.drop j) l = some q → s.br.length ≤ j →
    kS N (ops, e) f (j : Int) m h a s.c s.st s.br = some (aKw m h a (kU N m h a (ops.drop j) s))
  | 0, j, s, l, q, hf, _, _, _, _, _ => by omega
  | f + 1, j, s, l, q, hf, hj, hs, hl, hn, hbr => by
    rw [kS]
    by_cases hlt : j < ops.length
    · rw [List.drop_eq_getElem_cons hlt] at hn ⊢
      obtain ⟨s', h1, h2⟩ := aG0 hN hm hb (h := h) (a := a) (hv _ (List.getElem_mem hlt)) hs hl hn (by omega)
      rw [dT hlt, if_pos rfl, cY ops hlt]
      simp only [Option.bind_some, h1, kU]
      by_cases h0 : (nJ N m h a ops[j] s).1 = 0
      · obtain ⟨e', g1, g2, g3, l', g4, g5⟩ := h2 h0
        rw [h0, if_pos rfl, ← e', show ((0 : Int) != 0) = false from rfl, i1 (by omega)]
        exact aGP ops e hv ho f (j + 1) s' l' q (by omega) (by omega) g1 g4 g5 (by omega)
      · rw [if_neg h0, show ((nJ N m h a ops[j] s).1 != 0) = true by simpa using h0]
        simp only [if_true, aKw, if_neg h0]
    · rw [dF hlt, List.drop_eq_nil_of_le (by omega)]; rfl
end
section
variable {N : Nat} (hN : 70000 ≤ N)
include hN
theorem aFS {st : List (List Int)} (hl : st.length ≤ 1000) (h : ∀ x ∈ st, x.length ≤ 520) : nQ N st = some st := by
  have lp : ∀ (f j : Nat) (acc : List (List Int)), st.length - j < f → j ≤ st.length → acc.length ≤ j → jJ N st f (j : Int) acc = some (acc ++ st.drop j) := by
    intro f
    induction f with
    | zero => intro j acc hf; omega
    | succ f ih =>
      intro j acc hf hj ha
      rw [jJ]
      by_cases hlt : j < st.length
      · have hx := h _ (List.getElem_mem hlt)
        rw [dT hlt, if_pos rfl, cY st hlt]
        simp only [Option.bind_some]
        rw [aLF hN [st[j]] (by simp) (by simp; omega)]
        simp only [Option.bind_some, List.flatten_cons, List.flatten_nil, List.append_nil]
        rw [aIO (by simp; omega)]
        simp only [Option.bind_some, i1 (show j ≤ 100000 by omega)]
        rw [ih (j + 1) _ (by omega) (by omega) (by simp; omega), List.drop_eq_getElem_cons hlt, List.append_assoc]
        rfl
      · rw [dF hlt, List.drop_eq_nil_of_le (by omega), List.append_nil]; rfl
  have := lp N 0 [] (by omega) (by omega) (by simp)
  rw [show ((0 : Nat) : Int) = 0 from rfl] at this
  simp only [nQ, this, Option.bind_some, pM, List.nil_append, List.drop_zero]
def xM (st : List (List Int)) : Bool := !decide (64 < st.length) && st.all fun x => !decide (520 < (x.length : Int))
theorem aIU (st : List (List Int)) : o2 N st = some (xM st) := by
  unfold o2 xM
  by_cases hl : 64 < st.length
  · rw [show decide ((64 : Int) < ((st.length : Nat) : Int)) = true from decide_eq_true (by omega), decide_eq_true hl]; rfl
  · have := mV (f := gY N st) (xs := st) (p := fun x => !decide (520 < (x.length : Int))) (r := false) (fun m j hj => by
      rw [gY, dT hj, if_pos rfl, cY st hj]
      simp only [Option.bind_some, i1 (show j ≤ 100000 by omega)]
      cases decide (520 < ((st[j].length : Nat) : Int)) <;> rfl) (fun m j hj => by rw [gY, dF (by omega)]; rfl) N 0 (by omega) (by omega)
    rw [show ((0 : Nat) : Int) = 0 from rfl, List.drop_zero] at this
    rw [show decide ((64 : Int) < ((st.length : Nat) : Int)) = false from decide_eq_false (by omega), decide_eq_false hl, this]
    cases st.all fun x => !decide (520 < (x.length : Int)) <;> rfl
end
theorem aFQ {st : List (List Int)} (hb : ∀ x ∈ st, Byt x) : xM st = true ↔ WS st := by
  unfold xM
  constructor
  · intro h
    simp only [Bool.and_eq_true, List.all_eq_true, Bool.not_eq_true', decide_eq_false_iff_not] at h
    exact ⟨by omega, fun x hx => ⟨hb x hx, by have := h.2 x hx; omega⟩⟩
  · intro h
    simp only [Bool.and_eq_true, List.all_eq_true, Bool.not_eq_true', decide_eq_false_iff_not]
    exact ⟨by have := h.len; omega, fun x hx => by have := (h.it x hx).2; omega⟩
def sA (N : Nat) (b : List Int) (st : List (List Int)) (m : List Int) (h a : Int) : List (List Int) × Int × Int :=
  if (c8 b).2 ≠ 0 then ([], 0, (c8 b).2) else if uJ (c8 b).1 = false then ([], 0, 86) else if xM st = false then ([], 0, 4)
  else if (kU N m h a (c8 b).1 ⟨st, [], 0⟩).1 = 0 then ((kU N m h a (c8 b).1 ⟨st, [], 0⟩).2.st, (kU N m h a (c8 b).1 ⟨st, [], 0⟩).2.c, 0) else ([], 0, (kU N m h a (c8 b).1 ⟨st, [], 0⟩).1)
theorem aG8 {l : List bM} : uJ l = true ↔ oC l [] = some [] := by
  unfold uJ
  cases oC l [] with
  | none => simp
  | some q => cases q <;> simp; omega
section
variable {N : Nat} (hN : 70000 ≤ N) {m : List Int} (hm : m.length = 32) (hb : Byt m)
include hN hm hb
theorem aH0 {b : List Int} (hbb : Byt b) {st : List (List Int)} (h a : Int) (hp : (c8 b).2 = 0) (hn : uJ (c8 b).1 = true) (hw : WS st) (he : (kU N m h a (c8 b).1 ⟨st, [], 0⟩).1 = 0) : OkS (kU N m h a (c8 b).1 ⟨st, [], 0⟩).2 ∧ (kU N m h a (c8 b).1 ⟨st, [], 0⟩).2.br = [] := by
  obtain ⟨p1, p2, _⟩ := aFZ hbb hp
  obtain ⟨g1, _, g3⟩ := aIc hN hm hb (h := h) (a := a) (c8 b).1 ⟨st, [], 0⟩ [] [] p1 ⟨hw, by simp⟩ rfl (aG8.1 hn) (by simp; omega) he
  exact ⟨g1, vT.2 g3⟩
theorem aLM {b : List Int} (hbb : Byt b) {st : List (List Int)} (hst : ∀ x ∈ st, Byt x) (h a : Int) : uL N b st m h a = some (sA N b st m h a) := by
  unfold uL sA
  rw [aKG hN hbb]
  simp only [Option.bind_some]
  by_cases hp : (c8 b).2 = 0
  · obtain ⟨p1, p2, _⟩ := aFZ hbb hp
    rw [if_neg (by simpa using hp), hp, aJu hN (by omega), aIU hN]
    simp only [Option.bind_some, show ((0 : Int) != 0) = false from rfl, Bool.false_eq_true, if_false]
    cases hn : uJ (c8 b).1 with
    | false => rfl
    | true =>
      cases hB : xM st with
      | false => rfl
      | true =>
        have hw := (aFQ hst).1 hB
        have hl := hw.len
        have lp := aGP hN hm hb (h := h) (a := a) (c8 b).1 (c8 b).2 p1 (by omega) N 0 ⟨st, [], 0⟩ [] [] (by omega) (by omega) ⟨hw, by simp⟩ rfl (aG8.1 hn) (by simp)
        rw [show ((0 : Nat) : Int) = 0 from rfl, List.drop_zero] at lp
        simp only [Bool.not_true, Bool.false_eq_true, Bool.true_eq_false, if_false, aFS hN (show st.length ≤ 1000 by omega) (fun x hx => (hw.it x hx).2), Option.bind_some, tU]
        rw [show (kS N (c8 b) N 0 m h a 0 st []) = _ from lp]
        simp only [Option.bind_some, aKw]
        by_cases he : (kU N m h a (c8 b).1 ⟨st, [], 0⟩).1 = 0
        · obtain ⟨g1, _⟩ := aH0 hN hm hb hbb h a hp hn hw he
          have gl := g1.ws.len
          rw [if_pos he, if_pos he]
          simp only [tT, aFS hN (show (kU N m h a (c8 b).1 ⟨st, [], 0⟩).2.st.length ≤ 1000 by omega) (fun x hx => (g1.ws.it x hx).2), Option.bind_some]
          rfl
        · rw [if_neg he, if_neg he]; rfl
  · rw [if_pos hp, show ((c8 b).2 != 0) = true by simpa using hp]; rfl
end
end Go.Proofs.YtagblcjgjlihaaaDoor
set_option linter.unusedSimpArgs false
set_option linter.unusedVariables false
set_option linter.unusedSectionVars false
namespace Go.Proofs.YtagblcjgjlihaaaDoor
open Go Go.Vm
theorem aEy {N : Nat} {x : List Int} {h h' : Int} (hh : h ≤ h') (h0 : aC7 N x h = 0) : aC7 N x h' = 0 := by
  unfold aC7 at h0 ⊢
  cases hn : (aDv N x).2 != 0 with
  | true => rw [hn] at h0; exact h0
  | false =>
    rw [hn] at h0
    simp only [Bool.false_eq_true, if_false, decide_eq_true_eq] at h0 ⊢
    by_cases g : h < IntKind.i64.wrap (aDv N x).1
    · rw [if_pos g] at h0; cases h0
    · rw [if_neg (by omega)]
theorem aHq {N : Nat} {m : List Int} {h a h' a' : Int} (hh : h ≤ h') (ha : a ≤ a') {o : bM} {st : List (List Int)} (h0 : (rX N m h a o st).1 = 0) : rX N m h' a' o st = rX N m h a o st := by
  unfold rX at h0 ⊢
  by_cases h12 : o.Code = 12
  · simp only [h12] at h0 ⊢
    simp at h0 ⊢
    rw [h0]; exact aEy hh h0
  · by_cases h13 : o.Code = 13
    · simp only [h13] at h0 ⊢
      simp at h0 ⊢
      rw [h0]; exact aEy ha h0
    · simp only [if_neg h12, if_neg h13]
theorem aIj {N : Nat} {m : List Int} {h a h' a' : Int} (hh : h ≤ h') (ha : a ≤ a') {o : bM} {s : St} (h0 : (nJ N m h a o s).1 = 0) : nJ N m h' a' o s = nJ N m h a o s := by
  have body : ∀ k s, (yS N m h a o k s).1 = 0 → yS N m h' a' o k s = yS N m h a o k s := by
    intro k s h0
    unfold yS at h0 ⊢
    by_cases h14 : o.Code = 14
    · simp only [if_pos h14]
    by_cases h15 : o.Code = 15
    · simp only [if_neg h14, if_pos h15]
    by_cases h16 : o.Code = 16
    · simp only [if_neg h14, if_neg h15, if_pos h16]
    simp only [if_neg h14, if_neg h15, if_neg h16] at h0 ⊢
    cases k
    · rfl
    · simp only [if_true] at h0 ⊢
      rw [aHq hh ha h0]
  unfold nJ at h0 ⊢
  cases hc : aCy o s.br with
  | false =>
    rw [hc] at h0
    exact body _ _ h0
  | true =>
    rw [hc] at h0
    simp only [if_true] at h0 ⊢
    by_cases h5 : 500 < s.c + o8 o
    · rw [if_pos h5, if_pos h5]
    · simp only [if_neg h5] at h0 ⊢
      by_cases h6 : (s.st.length : Int) < rN o
      · rw [if_pos h6, if_pos h6]
      · simp only [if_neg h6] at h0 ⊢
        exact body _ _ h0
theorem aFN {N : Nat} {m : List Int} {h a h' a' : Int} (hh : h ≤ h') (ha : a ≤ a') : ∀ (r : List bM) (s : St), (kU N m h a r s).1 = 0 → kU N m h' a' r s = kU N m h a r s
  | [], s, _ => rfl
  | o :: r, s, h0 => by
    simp only [kU] at h0 ⊢
    by_cases g : (nJ N m h a o s).1 = 0
    · rw [if_pos g] at h0
      rw [aIj hh ha g, if_pos g, if_pos g]
      exact aFN hh ha r _ h0
    · rw [if_neg g] at h0; exact absurd h0 g
theorem aIM {N : Nat} {b : List Int} {st : List (List Int)} {m : List Int} {h a h' a' : Int} (hh : h ≤ h') (ha : a ≤ a') (h0 : (sA N b st m h a).2.2 = 0) : sA N b st m h' a' = sA N b st m h a := by
  unfold sA at h0 ⊢
  by_cases hp : (c8 b).2 ≠ 0
  · rw [if_pos hp, if_pos hp]
  · simp only [if_neg hp] at h0 ⊢
    by_cases hn : uJ (c8 b).1 = false
    · rw [if_pos hn, if_pos hn]
    · simp only [if_neg hn] at h0 ⊢
      by_cases hB : xM st = false
      · rw [if_pos hB, if_pos hB]
      · simp only [if_neg hB] at h0 ⊢
        by_cases he : (kU N m h a (c8 b).1 ⟨st, [], 0⟩).1 = 0
        · rw [aFN hh ha _ _ he]
        · rw [if_neg he] at h0; exact absurd h0 he
def aGZ (r : List (List Int) × Int × Int) : Int := if r.2.2 ≠ 0 then r.2.2 else if r.1.length ≠ 1 then 81 else if qD (r.1.getD 0 []) then 0 else 84
section
variable {N : Nat} (hN : 70000 ≤ N) {m : List Int} (hm : m.length = 32) (hb : Byt m)
include hN hm hb
theorem aLl {b : List Int} (hbb : Byt b) {st : List (List Int)} (hst : ∀ x ∈ st, Byt x) {h a : Int} (h0 : (sA N b st m h a).2.2 = 0) : (c8 b).2 = 0 ∧ uJ (c8 b).1 = true ∧ WS st ∧ (kU N m h a (c8 b).1 ⟨st, [], 0⟩).1 = 0 ∧ OkS (kU N m h a (c8 b).1 ⟨st, [], 0⟩).2 ∧ (kU N m h a (c8 b).1 ⟨st, [], 0⟩).2.br = [] ∧ sA N b st m h a = ((kU N m h a (c8 b).1 ⟨st, [], 0⟩).2.st, (kU N m h a (c8 b).1 ⟨st, [], 0⟩).2.c, 0) := by
  unfold sA at h0 ⊢
  by_cases hp : (c8 b).2 ≠ 0
  · rw [if_pos hp] at h0; exact absurd h0 hp
  · simp only [if_neg hp] at h0 ⊢
    by_cases hn : uJ (c8 b).1 = false
    · rw [if_pos hn] at h0; cases h0
    · simp only [if_neg hn] at h0 ⊢
      by_cases hB : xM st = false
      · rw [if_pos hB] at h0; cases h0
      · simp only [if_neg hB] at h0 ⊢
        by_cases he : (kU N m h a (c8 b).1 ⟨st, [], 0⟩).1 = 0
        · have hn' : uJ (c8 b).1 = true := by simpa using hn
          have hw := (aFQ hst).1 (by simpa using hB)
          have hp' : (c8 b).2 = 0 := by simpa using hp
          obtain ⟨g1, g2⟩ := aH0 hN hm hb hbb h a hp' hn' hw he
          rw [if_pos he]
          exact ⟨hp', hn', hw, he, g1, g2, rfl⟩
        · rw [if_neg he] at h0; exact absurd h0 he
theorem aLH {b : List Int} (hbb : Byt b) {st : List (List Int)} (hst : ∀ x ∈ st, Byt x) (h a : Int) : nE N b st m h a = some (aGZ (sA N b st m h a)) := by
  unfold nE aGZ
  rw [aLM hN hm hb hbb hst]
  simp only [Option.bind_some]
  by_cases h0 : (sA N b st m h a).2.2 = 0
  · obtain ⟨_, _, _, _, g, _, e⟩ := aLl hN hm hb hbb hst h0
    rw [if_neg (show ¬ (sA N b st m h a).2.2 ≠ 0 from fun h => h h0), show ((sA N b st m h a).2.2 != 0) = false by simpa using h0]
    simp only [Bool.false_eq_true, if_false]
    have hw : ∀ x ∈ (sA N b st m h a).1, x.length ≤ 520 := fun x hx => by rw [e] at hx; exact (g.ws.it x hx).2
    generalize (sA N b st m h a).1 = l at hw ⊢
    match l with
    | [] => rfl
    | [x] =>
      have hx := hw x (by simp)
      simp only [aHj, Option.bind_some, aBK hN (show x.length ≤ 60000 by omega)]
      show (if (!qD x) = true then some 84 else some 0) = some (if qD x = true then 0 else 84)
      cases qD x <;> rfl
    | x :: y :: r =>
      have e1 : ((((x :: y :: r).length : Nat) : Int) != 1) = true := by simp; omega
      have e2 : (x :: y :: r).length ≠ 1 := by simp
      rw [e1, if_pos e2]; rfl
  · rw [if_pos h0, show ((sA N b st m h a).2.2 != 0) = true by simpa using h0]; rfl
end
theorem aJh {r : List (List Int) × Int × Int} (h : aGZ r = 0) : r.2.2 = 0 := by
  unfold aGZ at h
  by_cases h0 : r.2.2 = 0
  · exact h0
  · rw [if_pos h0] at h; exact h
end Go.Proofs.YtagblcjgjlihaaaDoor
set_option linter.unusedSimpArgs false
set_option linter.unusedVariables false
set_option linter.unusedSectionVars false
set_option maxRecDepth 4000
namespace Go.Proofs.YtagblcjgjlihaaaDoor
open Go Go.Vm
def aAK (N : Nat) (v : Int) (ins : List aO) (outs : List aK) (lock h : Int) (i : Nat) (c : bD) (x : aO) : Int :=
  if (y9 N v ins outs lock i c.Output.Value c.Output.Script).2 ≠ 0 then (y9 N v ins outs lock i c.Output.Value c.Output.Script).2 else
  if qY x.Prev.Tx c.Out.Tx ((x.Prev.Index == c.Out.Index) && true) = false then 101 else
  if c.Height < 0 ∨ h < c.Height ∨ 16777216 < h then 102 else
  aGZ (sA N c.Output.Script x.Witness (y9 N v ins outs lock i c.Output.Value c.Output.Script).1 h (h - c.Height))
def xO (N : Nat) (v : Int) (ins : List aO) (outs : List aK) (lock : Int) (l : List bD) (h : Int) (i : Nat) : Int := match l[i]?, ins[i]? with
  | some c, some x => aAK N v ins outs lock h i c x
  | _, _ => 0
def r8 (f : Nat → Int) : Nat → Nat → Int
  | _, 0 => 0
  | j, k + 1 => if f j ≠ 0 then f j else r8 f (j + 1) k
theorem wX {f : Nat → Int} : ∀ {k j : Nat}, r8 f j k = 0 ↔ ∀ i, j ≤ i → i < j + k → f i = 0
  | 0, j => ⟨fun _ i h1 h2 => by omega, fun _ => rfl⟩
  | k + 1, j => by
    rw [r8]
    constructor
    · intro h i h1 h2
      by_cases g : f j = 0
      · rw [if_neg (fun n => n g)] at h
        by_cases e : i = j
        · rw [e]; exact g
        · exact wX.1 h i (by omega) (by omega)
      · rw [if_pos g] at h; exact absurd h g
    · intro h
      rw [if_neg (fun n => n (h j (by omega) (by omega)))]
      exact wX.2 fun i h1 h2 => h i (by omega) (by omega)
theorem aKC (N : Nat) (v : Int) (ins : List aO) (outs : List aK) (lock i oV : Int) (oS : List Int) : Byt (y9 N v ins outs lock i oV oS).1 := by
  have hz : Byt aEC := by intro x hx; simp [aEC] at hx; omega
  unfold y9
  split
  · split
    · exact hz
    · exact aIK _ _ _
  · exact hz
section
variable (N : Nat) (hN : 70000 ≤ N) {v : Int} {ins : List aO} {outs : List aK} {lock : Int} (K : zE ins outs) (B : aIx ins outs) (W : ∀ x ∈ ins, ∀ w ∈ x.Witness, Byt w)
include hN K B W
theorem aKI {h : Int} (hh : 0 ≤ h ∧ h ≤ 17000000) {i : Nat} (hi : i < ins.length) {c : bD} (hc : Byt c.Output.Script) :
    tD N v ins outs lock (i : Int) c.Out.Tx c.Out.Index c.Output.Value c.Output.Script c.Height c.Coinbase h = some (aAK N v ins outs lock h i c ins[i]) := by
  have hl := aKv N (v := v) (ins := ins) (outs := outs) (lock := lock) (i := (i : Int)) (oV := c.Output.Value) (oS := c.Output.Script)
  have hb := aKC N v ins outs lock (i : Int) c.Output.Value c.Output.Script
  unfold tD aAK
  rw [aIW N hN K B hc]
  simp only [Option.bind_some, jT hl]
  generalize y9 N v ins outs lock (i : Int) c.Output.Value c.Output.Script = M at hl hb ⊢
  by_cases h0 : M.2 = 0
  · rw [if_neg (show ¬ M.2 ≠ 0 from fun n => n h0), show (M.2 != 0) = false by simpa using h0]
    simp only [Bool.false_eq_true, if_false, cY ins hi, Option.bind_some]
    cases ha : qY ins[i].Prev.Tx c.Out.Tx ((ins[i].Prev.Index == c.Out.Index) && true) with
    | false => rfl
    | true =>
      simp only [Bool.not_true, Bool.false_eq_true, if_false, Bool.true_eq_false]
      by_cases h1 : c.Height < 0
      · rw [decide_eq_true h1, if_pos rfl, if_pos (show c.Height < 0 ∨ h < c.Height ∨ 16777216 < h from .inl h1)]; rfl
      · rw [decide_eq_false h1]
        by_cases h2 : h < c.Height
        · simp only [Bool.false_eq_true, if_false]; rw [decide_eq_true h2, if_pos rfl, if_pos (show c.Height < 0 ∨ h < c.Height ∨ 16777216 < h from .inr (.inl h2))]; rfl
        · rw [decide_eq_false h2]
          by_cases h3 : 16777216 < h
          · simp only [Bool.false_eq_true, if_false]; rw [decide_eq_true h3, if_pos (show c.Height < 0 ∨ h < c.Height ∨ 16777216 < h from .inr (.inr h3))]; rfl
          · rw [decide_eq_false h3, if_neg (show ¬ (c.Height < 0 ∨ h < c.Height ∨ 16777216 < h) by omega)]
            simp only [Bool.false_eq_true, if_false, mU, cY ins hi, Option.bind_some]
            rw [fA (a := h - c.Height) (by omega) (by omega), aLH hN hl hb hc (W _ (List.getElem_mem hi))]
            rfl
  · rw [if_pos h0, show (M.2 != 0) = true by simpa using h0]; rfl
theorem aDW {l : List bD} (hl : l.length ≤ 70) (hln : l.length = ins.length) (hc : ∀ c ∈ l, Byt c.Output.Script) {h : Int} (hh : 0 ≤ h ∧ h ≤ 17000000) (x : Int × Int) : ∀ (m j : Nat), l.length - j < m → j ≤ l.length →
    lE N v ins outs lock l h x m (j : Int) = some (if r8 (xO N v ins outs lock l h) j (l.length - j) = 0 then .brk () else .ret (0, r8 (xO N v ins outs lock l h) j (l.length - j)))
  | 0, j, h1, _ => by omega
  | m + 1, j, h1, h2 => by
    rw [lE]
    by_cases hj : j < l.length
    · have hi : j < ins.length := by omega
      rw [dT hj, if_pos rfl, cY l hj]
      simp only [Option.bind_some]
      rw [aKI N hN K B W hh hi (hc _ (List.getElem_mem hj)), show l.length - j = (l.length - (j + 1)) + 1 by omega, r8]
      have e : xO N v ins outs lock l h j = aAK N v ins outs lock h j l[j] ins[j] := by simp only [xO, List.getElem?_eq_getElem hj, List.getElem?_eq_getElem hi]
      rw [e]
      simp only [Option.bind_some, i1 (show j ≤ 100000 by omega)]
      by_cases h0 : aAK N v ins outs lock h j l[j] ins[j] = 0
      · rw [if_neg (show ¬ aAK N v ins outs lock h j l[j] ins[j] ≠ 0 from fun n => n h0), show (aAK N v ins outs lock h j l[j] ins[j] != 0) = false by simpa using h0]
        simp only [Bool.false_eq_true, if_false]
        exact aDW hl hln hc hh x m (j + 1) (by omega) (by omega)
      · rw [if_pos (show aAK N v ins outs lock h j l[j] ins[j] ≠ 0 from h0), if_neg h0, show (aAK N v ins outs lock h j l[j] ins[j] != 0) = true by simpa using h0]; rfl
    · rw [dF (by omega), show l.length - j = 0 by omega]; rfl
end
theorem aJ0 (N : Nat) (hN : 70000 ≤ N) (v : Int) (ins : List aO) (outs : List aK) (lock h : Int) (hn : ins.length ≤ 1000) : aAa N v ins outs lock h = some (decide (IntKind.i64.wrap lock ≤ h) || ins.all fun x => !(x.Sequence != 4294967295)) := by
  unfold aAa
  cases decide (IntKind.i64.wrap lock ≤ h) with
  | true => rfl
  | false =>
    have := mV (f := mP N ins) (xs := ins) (p := fun x => !(x.Sequence != 4294967295)) (r := false) (fun m j hj => by
      rw [mP, dT hj, if_pos rfl, cY ins hj]
      simp only [Option.bind_some, i1 (show j ≤ 100000 by omega)]
      cases ins[j].Sequence != 4294967295 <;> rfl) (fun m j hj => by rw [mP, dF (by omega)]; rfl) N 0 (by omega) (by omega)
    rw [show ((0 : Nat) : Int) = 0 from rfl, List.drop_zero] at this
    rw [this]
    cases ins.all fun x => !(x.Sequence != 4294967295) <;> rfl
def xK (N : Nat) (v : Int) (ins : List aO) (outs : List aK) (lock : Int) (l : List bD) (h : Int) : Int × Int :=
  if cbB ins = true then (0, 92) else if (vR v ins outs lock l).2 ≠ 0 then (0, (vR v ins outs lock l).2) else
  if (decide (IntKind.i64.wrap lock ≤ h) || ins.all fun x => !(x.Sequence != 4294967295)) = false then (0, 85) else
  if r8 (xO N v ins outs lock l h) 0 l.length = 0 then ((vR v ins outs lock l).1, 0) else (0, r8 (xO N v ins outs lock l h) 0 l.length)
theorem aK9 {v : Int} {ins : List aO} {outs : List aK} {lock : Int} {l : List bD} (h : (vR v ins outs lock l).2 = 0) : l.length = ins.length := by
  unfold vR at h
  by_cases hc : chk v ins outs lock ≠ 0
  · rw [if_pos hc] at h; exact absurd h hc
  · rw [if_neg hc] at h
    by_cases hn : l.length ≠ ins.length
    · rw [if_pos hn] at h; cases h
    · simpa using hn
section
variable (N : Nat) (hN : 70000 ≤ N) {v : Int} {ins : List aO} {outs : List aK} {lock : Int} (K : zE ins outs) (B : aIx ins outs) (W : ∀ x ∈ ins, ∀ w ∈ x.Witness, Byt w)
include hN K B W
theorem aGW {l : List bD} (hl : l.length ≤ 70) (hc : ∀ c ∈ l, Byt c.Output.Script) {h : Int} (hh : 0 ≤ h ∧ h ≤ 17000000) : qO N v ins outs lock l h = some (xK N v ins outs lock l h) := by
  unfold qO xK
  rw [aC2, Option.bind_some]
  cases cbB ins with
  | true => rfl
  | false =>
    rw [aLK N hN K hl]
    simp only [Bool.false_eq_true, if_false, Option.bind_some]
    by_cases h0 : (vR v ins outs lock l).2 = 0
    · have hln := aK9 h0
      rw [if_neg (show ¬ (vR v ins outs lock l).2 ≠ 0 from fun n => n h0), show ((vR v ins outs lock l).2 != 0) = false by simpa using h0, aJ0 N hN _ _ _ _ _ (by omega)]
      simp only [Bool.false_eq_true, if_false, Option.bind_some]
      cases (decide (IntKind.i64.wrap lock ≤ h) || ins.all fun x => !(x.Sequence != 4294967295)) with
      | false => rfl
      | true =>
        have e := aDW N hN K B W (v := v) (lock := lock) hl hln hc hh (vR v ins outs lock l) N 0 (by omega) (by omega)
        rw [show ((0 : Nat) : Int) = 0 from rfl, Nat.sub_zero] at e
        simp only [Bool.not_true, Bool.false_eq_true, if_false, Bool.true_eq_false, e, Option.bind_some]
        by_cases hE : r8 (xO N v ins outs lock l h) 0 l.length = 0
        · rw [if_pos hE, if_pos hE]; rfl
        · rw [if_neg hE, if_neg hE]
    · rw [if_pos h0, show ((vR v ins outs lock l).2 != 0) = true by simpa using h0]; rfl
end
theorem aJC {N : Nat} {v : Int} {ins : List aO} {outs : List aK} {lock : Int} {l : List bD} {h h' : Int} (hh : h ≤ h') (h2 : h' ≤ 16777216) {i : Nat} (h0 : xO N v ins outs lock l h i = 0) : xO N v ins outs lock l h' i = 0 := by
  unfold xO at h0 ⊢
  cases hl : l[i]? with
  | none => rfl
  | some c =>
    cases hi : ins[i]? with
    | none => rfl
    | some x =>
      rw [hl, hi] at h0
      simp only [aAK] at h0 ⊢
      by_cases hm : (y9 N v ins outs lock (i : Int) c.Output.Value c.Output.Script).2 ≠ 0
      · rw [if_pos hm] at h0; exact absurd h0 hm
      · rw [if_neg hm] at h0 ⊢
        by_cases ha : qY x.Prev.Tx c.Out.Tx ((x.Prev.Index == c.Out.Index) && true) = false
        · rw [if_pos ha] at h0; cases h0
        · rw [if_neg ha] at h0 ⊢
          by_cases hc : c.Height < 0 ∨ h < c.Height ∨ 16777216 < h
          · rw [if_pos hc] at h0; cases h0
          · rw [if_neg hc] at h0
            rw [if_neg (by omega), aIM (h := h) (a := h - c.Height) (by omega) (by omega) (aJh h0)]
            exact h0
theorem aHD {N : Nat} {v : Int} {ins : List aO} {outs : List aK} {lock : Int} {l : List bD} {h h' : Int} (hh : h ≤ h') (h2 : h' ≤ 16777216) (h0 : (xK N v ins outs lock l h).2 = 0) : xK N v ins outs lock l h' = xK N v ins outs lock l h := by
  unfold xK at h0 ⊢
  by_cases hc : cbB ins = true
  · rw [if_pos hc] at h0; cases h0
  · rw [if_neg hc] at h0 ⊢
    by_cases hf : (vR v ins outs lock l).2 ≠ 0
    · rw [if_pos hf] at h0; exact absurd h0 hf
    · rw [if_neg hf] at h0 ⊢
      cases hz : (decide (IntKind.i64.wrap lock ≤ h) || ins.all fun x => !(x.Sequence != 4294967295)) with
      | false => rw [hz] at h0; cases h0
      | true =>
        have hz' : (decide (IntKind.i64.wrap lock ≤ h') || ins.all fun x => !(x.Sequence != 4294967295)) = true := by
          rw [Bool.or_eq_true] at hz ⊢
          exact hz.imp (fun g => by simp only [decide_eq_true_eq] at g ⊢; omega) id
        rw [hz] at h0
        rw [hz', if_neg hc, if_neg hf]
        simp only [Bool.true_eq_false, if_false] at h0 ⊢
        by_cases hE : r8 (xO N v ins outs lock l h) 0 l.length = 0
        · have hE' : r8 (xO N v ins outs lock l h') 0 l.length = 0 := wX.2 fun i a b => aJC hh h2 (wX.1 hE i a b)
          rw [if_pos hE, if_pos hE']
        · rw [if_neg hE] at h0; exact absurd h0 hE
def NN : Nat := 70000
theorem aK3 : yT NN = some true := by decide +kernel
theorem aD9 (v : Int) (ins : List aO) (outs : List aK) (lock : Int) (l : List bD) (h d : Int) (ht : ∀ x ∈ ins, x.Prev.Tx.length = 32) (B : aIx ins outs) (W : ∀ x ∈ ins, ∀ w ∈ x.Witness, Byt w) (hc : ∀ c ∈ l, Byt c.Output.Script) (hd : 0 ≤ d ∧ d < 256) : pN NN v ins outs lock l h d = some true := by
  have hN : 70000 ≤ NN := Nat.le_refl _
  have hJ : fP NN v ins outs lock l h d true = some true := rfl
  unfold pN
  rw [aK3, aJI NN hN, show (20 : Int) = ((20 : Nat) : Int) from rfl, aHd NN hN 20 (by omega)]
  simp only [Option.bind_some, Bool.not_true, Bool.false_eq_true, if_false]
  cases hk : aEz ins outs with
  | false => exact hJ
  | true =>
    cases hq : aGj 20 l with
    | false => exact hJ
    | true =>
      simp only [Bool.not_true, Bool.false_eq_true, if_false]
      by_cases h1 : h < 0
      · rw [decide_eq_true h1]; exact hJ
      · rw [decide_eq_false h1]
        by_cases h2 : 16776960 < h
        · rw [decide_eq_true h2]; exact hJ
        · rw [decide_eq_false h2]
          have K := aLj hk ht
          have hl : l.length ≤ 70 := by
            simp only [aGj, Bool.and_eq_true, decide_eq_true_eq] at hq; omega
          simp only [Bool.false_eq_true, if_false, fP, i7]
          rw [fA (a := d) (by omega) (by omega), fA (a := h + d) (by omega) (by omega), aGW NN hN K B W hl hc (by omega), aGW NN hN K B W hl hc (by omega)]
          simp only [Option.bind_some]
          by_cases h0 : (xK NN v ins outs lock l h).2 = 0
          · rw [aHD (h := h) (h' := h + d) (by omega) (by omega) h0, h0]
            simp
          · rw [show ((xK NN v ins outs lock l h).2 != 0) = true by simpa using h0]; rfl
end Go.Proofs.YtagblcjgjlihaaaDoor
namespace Go.Proofs.YtagblcjgjlihaaaDoor
open Go Go.Vm
theorem mixed : Tryd.prog.follows .mixedOrders = true := by kernel_rfl
theorem dep : 2 ≤ Tryd.prog.depth := Nat.le_of_ble_eq_true (by kernel_rfl)
noncomputable def E0 : Env Tryd.prog := Env.zero mixed
noncomputable def E1 : Env Tryd.prog := { O := fun _ _ _ => none, F := fS, ok := fun _ _ _ _ _ hh => (by cases hh), still := fun _ _ _ _ _ _ hh => (by cases hh), mixed := mixed }
theorem aH7 (b off : Nat) : bK Tryd.prog 26 (.ptr b off) 0 = some (.ptr b (off + 0)) := by simp [bK, jY, cA]
theorem gL (b off : Nat) : bK Tryd.prog 26 (.ptr b off) 1 = some (.ptr b (off + 1)) := by simp [bK, jY, eG]
theorem o7 (b off : Nat) : bK Tryd.prog 26 (.ptr b off) 2 = some (.ptr b (off + 2)) := by simp [bK, jY, jZ]
theorem aEJ (b off : Nat) : bK Tryd.prog 26 (.ptr b off) 3 = some (.ptr b (off + 3)) := by simp [bK, jY, cA]
theorem aK6 (b off : Nat) : bK Tryd.prog 38 (.ptr b off) 0 = some (.ptr b (off + 0)) := by simp [bK, jA, dL]
theorem aKY (b off : Nat) : bK Tryd.prog 38 (.ptr b off) 1 = some (.ptr b (off + 32)) := by simp [bK, jA, cA]
theorem aCN (b off : Nat) : bK Tryd.prog 41 (.ptr b off) 0 = some (.ptr b (off + 0)) := by simp [bK, gD, jA]
theorem aEP (es : List V) (i off : Nat) : bK Tryd.prog 41 (.eptr es i off) 0 = some (.eptr es i (off + 0)) := by simp [bK, gD, jA]
theorem aER (b off : Nat) : bK Tryd.prog 41 (.ptr b off) 1 = some (.ptr b (off + 33)) := by simp [bK, gD, cA]
theorem aBa (b off : Nat) : bK Tryd.prog 41 (.ptr b off) 2 = some (.ptr b (off + 34)) := by simp [bK, gD, b5]
theorem aLq (es : List V) (i off : Nat) : bK Tryd.prog 41 (.eptr es i off) 2 = some (.eptr es i (off + 34)) := by simp [bK, gD, b5]
theorem mE (b off : Nat) : bK Tryd.prog 44 (.ptr b off) 0 = some (.ptr b (off + 0)) := by simp [bK, iO, uQ]
theorem wI (b off : Nat) : bK Tryd.prog 44 (.ptr b off) 1 = some (.ptr b (off + 1)) := by simp [bK, iO, bG]
theorem aH9 (b off : Nat) : bK Tryd.prog 46 (.ptr b off) 0 = some (.ptr b (off + 0)) := by simp [bK, nB, jA]
theorem v8 (b off : Nat) : bK Tryd.prog 46 (.ptr b off) 1 = some (.ptr b (off + 33)) := by simp [bK, nB, iO]
theorem y8 (b off : Nat) : bK Tryd.prog 46 (.ptr b off) 2 = some (.ptr b (off + 35)) := by simp [bK, nB, dN]
theorem aK4 (b off : Nat) : bK Tryd.prog 58 (.ptr b off) 0 = some (.ptr b (off + 0)) := by simp [bK, aAR, dL]
theorem aK1 (b off : Nat) : bK Tryd.prog 58 (.ptr b off) 1 = some (.ptr b (off + 32)) := by simp [bK, aAR, dN]
theorem aLb (b off : Nat) : bK Tryd.prog 58 (.ptr b off) 2 = some (.ptr b (off + 33)) := by simp [bK, aAR, dN]
theorem aEE (b off : Nat) : bK Tryd.prog 88 (.ptr b off) 0 = some (.ptr b (off + 0)) := by simp [bK, aAH, aAR]
theorem fL (b off : Nat) : bK Tryd.prog 88 (.ptr b off) 1 = some (.ptr b (off + 34)) := by simp [bK, aAH, b5]
theorem mB (b off : Nat) : bK Tryd.prog 88 (.ptr b off) 2 = some (.ptr b (off + 35)) := by simp [bK, aAH, kV]
theorem aCQ (b off : Nat) : bK Tryd.prog 88 (.ptr b off) 3 = some (.ptr b (off + 36)) := by simp [bK, aAH, dN]
theorem qI (b off : Nat) : bK Tryd.prog 90 (.ptr b off) 0 = some (.ptr b (off + 0)) := by simp [bK, gF, dN]
theorem aIb (b off : Nat) : bK Tryd.prog 90 (.ptr b off) 1 = some (.ptr b (off + 1)) := by simp [bK, gF, bG]
theorem aET (b off : Nat) : bK Tryd.prog 90 (.ptr b off) 2 = some (.ptr b (off + 2)) := by simp [bK, gF, dN]
theorem mR (b off : Nat) : bK Tryd.prog 90 (.ptr b off) 3 = some (.ptr b (off + 3)) := by simp [bK, gF, dN]
theorem aDc (b off : Nat) : bK Tryd.prog 103 (.ptr b off) 0 = some (.ptr b (off + 0)) := by simp [bK, oR, ti4]
theorem aDD (b off : Nat) : bK Tryd.prog 103 (.ptr b off) 1 = some (.ptr b (off + 1)) := by simp [bK, oR, ti4]
theorem t6 (b off : Nat) : bK Tryd.prog 129 (.ptr b off) 0 = some (.ptr b (off + 0)) := by simp [bK, nI, aT]
theorem aBR (b off : Nat) : bK Tryd.prog 129 (.ptr b off) 1 = some (.ptr b (off + 4)) := by simp [bK, nI, aT]
theorem aNk : k9 Tryd.prog 26 = some #[(0, 1), (1, 1), (2, 1), (3, 1)] := by kernel_rfl
theorem aGx : k9 Tryd.prog 38 = some #[(0, 32), (32, 1)] := by kernel_rfl
theorem aLW : k9 Tryd.prog 41 = some #[(0, 33), (33, 1), (34, 1)] := by kernel_rfl
theorem aKs : k9 Tryd.prog 44 = some #[(0, 1), (1, 1)] := by kernel_rfl
theorem aLY : k9 Tryd.prog 46 = some #[(0, 33), (33, 2), (35, 1), (36, 1)] := by kernel_rfl
theorem aMU : k9 Tryd.prog 58 = some #[(0, 32), (32, 1), (33, 1)] := by kernel_rfl
theorem aLG : k9 Tryd.prog 88 = some #[(0, 34), (34, 1), (35, 1), (36, 1)] := by kernel_rfl
theorem aGk : k9 Tryd.prog 90 = some #[(0, 1), (1, 1), (2, 1), (3, 1)] := by kernel_rfl
theorem aKN : k9 Tryd.prog 103 = some #[(0, 1), (1, 1)] := by kernel_rfl
theorem aIk : k9 Tryd.prog 129 = some #[(0, 4), (4, 4)] := by kernel_rfl
theorem aIi : tA Tryd.prog 9 38 = some ((List.replicate 32 ([.int .u8])).flatten ++ [.int .u32]) := by kernel_rfl
theorem aJY : Tryd.prog.eqGuardType Tryd.prog.depth 38 = false := by kernel_rfl
noncomputable def aBw : MT := (qZ Tryd.prog 61).getD default
theorem aGC : qZ Tryd.prog 61 = some aBw := by kernel_rfl
theorem aHl : aBw.code = 33000 := by kernel_rfl
theorem aIo : lF aBw.dk = 33 := by kernel_rfl
theorem aIJ : lF aBw.de = 0 := by kernel_rfl
theorem aJP : ofValue aBw.de.zero = (eB false) := by kernel_rfl
theorem aMC : aBw.kt = 38 := by kernel_rfl
theorem aIX : aAx Tryd.prog aBw.kt (fun a : aY => .agg (aM7 (fG a)).toArray) qV := by
  rw [aMC]; exact aIY (d := 9) jA rfl aIi (Nat.le_of_ble_eq_true rfl) (fun _ => rfl) (fun _ _ => rfl)
theorem zH {p : Prop} (h : p := by simp only [pB, iT, xF, sX, Blk.rn, V.rns, V.rn, sg, List.map_cons, List.map_nil, Option.map_some, Option.map_none, List.drop_succ_cons, List.drop_zero, List.drop_nil, List.set_cons_zero, List.set_cons_succ, List.cons_append, List.nil_append, List.append_nil, xH, xL, aGM, aGu, rM, rI, vL, uM, tX, t3, aDC, vQ, vX, z9, zF, qR, qS, aEN, aEU, aDB, aDq, aDn, aFl, aDr, List.getElem?_cons_zero, List.getElem?_cons_succ, List.getElem?_nil, List.length_cons, List.length_nil, Nat.reduceAdd, Nat.reduceSub, Nat.add_zero, Nat.zero_add, Nat.sub_self, Nat.sub_zero]) : p := h
theorem zB {f : FuncId} {hs hs' hb hb' : Hp} {args xs : List V} {r v : V} (hc : Vm.Fn Tryd.prog f hs args r hs') (ρ : List Nat) (hnd : ρ.Nodup := by decide) (hlt : ρ.all (fun b => Nat.blt b hb.length) = true := by rfl)
    (hl : Lend (sg ρ hb.length) hb ρ hs := by repeat (first | exact Lend.nil | refine Lend.cons rfl rfl ?_ | refine Lend.cons rfl (sL (fun _ => rfl) _) ?_ | refine Lend.cons rfl (kA (fun _ => rfl) _) ?_)) (hx : V.rns (sg ρ hb.length) args = xs := by first | rfl | (simp only [V.rn, V.rns, xH, xL] <;> rfl)) (hr : r.rn (sg ρ hb.length) = v := by first | rfl | (simp only [V.rn, V.rns, xH, xL] <;> rfl)) (hh : pB hb ρ hs' = hb' := by (simp only [pB, iT, xF, sX, Blk.rn, V.rns, V.rn, sg, List.map_cons, List.map_nil, Option.map_some, Option.map_none, List.drop_succ_cons, List.drop_zero, List.drop_nil, List.set_cons_zero, List.set_cons_succ, List.cons_append, List.nil_append, List.append_nil, xH, xL, aGM, aGu, rM, rI, vL, uM, tX, t3, aDC, vQ, vX, z9, zF, qR, qS, aEN, aEU, aDB, aDq, aDn, aFl, aDr, List.getElem?_cons_zero, List.getElem?_cons_succ, List.getElem?_nil, List.length_cons, List.length_nil, Nat.reduceAdd, Nat.reduceSub, Nat.add_zero, Nat.zero_add, Nat.sub_self, Nat.sub_zero] <;> rfl)) : Vm.Fn Tryd.prog f hb xs v hb' := Vm.Fn.lendB hc ρ hnd hlt hl hx hr hh
theorem zL {f : FuncId} {hs hs' hb hb' : Hp} {args xs : List V} {r v : V} (hc : Vm.Fn Tryd.prog f hs args r hs') (ρ β : List Nat) (hnd : ρ.Nodup := by decide) (hlt : ρ.all (fun b => Nat.blt b hb.length) = true := by rfl) (hdis : ∀ b ∈ β, b ∉ ρ := by decide)
    (hl : Lend (sg ρ hb.length) hb ρ hs := by repeat (first | exact Lend.nil | refine Lend.cons rfl rfl ?_ | refine Lend.cons rfl (sL (fun _ => rfl) _) ?_ | refine Lend.cons rfl (kA (fun _ => rfl) _) ?_))
    (hx : Brw (sg ρ hb.length) (only β hb) xs args := by repeat (first | exact Brw.nil | refine Brw.same rfl ?_ | refine Brw.row (aHY rfl rfl (fun _ => rfl)) ?_ | refine Brw.same (by simp only [V.rn, V.rns, xH, xL]) ?_))
    (hrf : r.rf = true := by first | rfl | simp [V.rf, V.rfs, aMc, aLv]) (hrb : rfB hs' := by repeat (first | exact rfB.nil | refine rfB.dead ?_ | refine rfB.live rfl ?_ | refine rfB.live (aA1 (fun _ => rfl) _) ?_ | refine rfB.live (aHc (fun _ => rfl) _) ?_))
    (hr : r.rn (sg ρ hb.length) = v := by first | rfl | (simp only [V.rn, V.rns, xH, xL] <;> rfl)) (hh : pB hb ρ hs' = hb' := by simp only [pB, iT, xF, sX, Blk.rn, V.rns, V.rn, sg, List.map_cons, List.map_nil, Option.map_some, Option.map_none, List.drop_succ_cons, List.drop_zero, List.drop_nil, List.set_cons_zero, List.set_cons_succ, List.cons_append, List.nil_append, List.append_nil, xH, xL, aGM, aGu, rM, rI, vL, uM, tX, t3, aDC, vQ, vX, z9, zF, qR, qS, aEN, aEU, aDB, aDq, aDn, aFl, aDr, List.getElem?_cons_zero, List.getElem?_cons_succ, List.getElem?_nil, List.length_cons, List.length_nil, Nat.reduceAdd, Nat.reduceSub, Nat.add_zero, Nat.zero_add, Nat.sub_self, Nat.sub_zero]) : Vm.Fn Tryd.prog f hb xs v hb' := Vm.Fn.lendR hc ρ β hnd hlt hdis hl hx hrf hrb hr hh
end Go.Proofs.YtagblcjgjlihaaaDoor
