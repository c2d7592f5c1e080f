/- Texts of ours, joined: PlainN2, PlainV4, PlainV5, PlainR1, PlainV6, PlainV7, PlainC2, PlainC3, PlainC4, PlainC5, PlainC6, PlainC7, PlainV8, PlainV9, PlainV10, PlainV11, PlainV12, PlainV13, PlainV14, PlainV15, PlainV16, PlainG, TyF. -/
import Derived.Test.YtnoklhehodlkaaaGreatDoorQScriptSigned4
set_option linter.unusedSimpArgs false
set_option linter.unusedVariables false
set_option linter.unusedSectionVars false
namespace Go.Proofs.YtnoklhehodlkaaaGreatDoor
open Go Go.Vm
def qY (n w : Nat) : Nat := n / 18446744073709551616 ^ (3 - w) % 18446744073709551616
theorem aIv (n : Nat) : U n = [(qY n 3 : Int), (qY n 2 : Int), (qY n 1 : Int), (qY n 0 : Int)] := by
  simp only [U, w4, qY, Nat.sub_self, Nat.pow_zero, Nat.div_one]
theorem aEb (n w : Nat) : qY n w < 18446744073709551616 := Nat.mod_lt _ (by decide)
def pC (n w j : Nat) : Nat := qY n w / 2 ^ (64 - 8 * min 8 (j - 8 * w))
def zO (n j : Nat) : List Int := [(pC n 3 j : Int), (pC n 2 j : Int), (pC n 1 j : Int), (pC n 0 j : Int)]
theorem aMx (n j w : Nat) (hw : w < 4) : (zO n j)[3 - w]? = some ((pC n w j : Nat) : Int) := by
  match w, hw with
  | 0, _ => rfl
  | 1, _ => rfl
  | 2, _ => rfl
  | 3, _ => rfl
theorem aEB (n i : Nat) (hi : i < 32) : byG n i = ((qY n (i / 8) / 2 ^ (56 - 8 * (i % 8)) % 256 : Nat) : Int) := by
  have h : (U n).getD (3 - i / 8) 0 = ((qY n (i / 8) : Nat) : Int) := by
    rw [aIv]
    have : i / 8 < 4 := by omega
    generalize i / 8 = w at this
    match w, this with
    | 0, _ => rfl
    | 1, _ => rfl
    | 2, _ => rfl
    | 3, _ => rfl
  unfold byG
  rw [h, show ((2 : Int) ^ (56 - 8 * (i % 8))) = ((2 ^ (56 - 8 * (i % 8)) : Nat) : Int) by simp, Int.fdiv_eq_ediv_of_nonneg _ (Int.natCast_nonneg _), ← Int.natCast_ediv, IntKind.wrap_u8]
  generalize qY n (i / 8) / 2 ^ (56 - 8 * (i % 8)) = y
  omega
theorem aEf {n w r : Nat} (hr : r < 8) : pC n w (8 * w + r + 1) = 2 ^ 8 * pC n w (8 * w + r) + qY n w / 2 ^ (56 - 8 * r) % 256 ∧ pC n w (8 * w + r) < 2 ^ 56 := by
  have e1 : 64 - 8 * min 8 (8 * w + r + 1 - 8 * w) = 56 - 8 * r := by omega
  have e2 : 64 - 8 * min 8 (8 * w + r - 8 * w) = (56 - 8 * r) + 8 := by omega
  unfold pC
  rw [e1, e2, Nat.pow_add, ← Nat.div_div_eq_div_mul]
  have hu := aEb n w
  have hd : qY n w / 2 ^ (56 - 8 * r) ≤ qY n w := Nat.div_le_self _ _
  generalize qY n w / 2 ^ (56 - 8 * r) = y at hd
  have : (2 : Nat) ^ 8 = 256 := rfl
  have h56 : (2 : Nat) ^ 56 = 72057594037927936 := rfl
  rw [this, h56]
  omega
theorem kG {n w w' r : Nat} (hr : r < 8) (hne : w' ≠ w) : pC n w' (8 * w + r + 1) = pC n w' (8 * w + r) := by
  unfold pC
  rw [show min 8 (8 * w + r + 1 - 8 * w') = min 8 (8 * w + r - 8 * w') by omega]
theorem aL9 {n w r : Nat} (hw : w < 4) (hr : r < 8) : (zO n (8 * w + r)).set (3 - w) ((2 ^ 8 * pC n w (8 * w + r) + qY n w / 2 ^ (56 - 8 * r) % 256 : Nat) : Int) = zO n (8 * w + r + 1) := by
  rw [← (aEf hr).1]
  match w, hw with
  | 0, _ => simp only [zO]; rw [kG (w' := 1) hr (by decide), kG (w' := 2) hr (by decide), kG (w' := 3) hr (by decide)]; rfl
  | 1, _ => simp only [zO]; rw [kG (w' := 0) hr (by decide), kG (w' := 2) hr (by decide), kG (w' := 3) hr (by decide)]; rfl
  | 2, _ => simp only [zO]; rw [kG (w' := 1) hr (by decide), kG (w' := 0) hr (by decide), kG (w' := 3) hr (by decide)]; rfl
  | 3, _ => simp only [zO]; rw [kG (w' := 1) hr (by decide), kG (w' := 2) hr (by decide), kG (w' := 0) hr (by decide)]; rfl
theorem aPK (n : Nat) : zO n 0 = [0, 0, 0, 0] := by
  have h : ∀ w, pC n w 0 = 0 := fun w => by
    unfold pC
    rw [show 64 - 8 * min 8 (0 - 8 * w) = 64 by omega]
    exact Nat.div_eq_of_lt (by have := aEb n w; exact this)
  simp only [zO, h]; rfl
theorem aOk (n : Nat) : zO n 32 = U n := by
  have h : ∀ w, w < 4 → pC n w 32 = qY n w := fun w hw => by
    unfold pC
    rw [show 64 - 8 * min 8 (32 - 8 * w) = 0 by omega]
    simp
  rw [aIv]; simp only [zO]; rw [h 0 (by decide), h 1 (by decide), h 2 (by decide), h 3 (by decide)]
section
variable {N : Nat} (hN : 70000 ≤ N)
include hN
theorem aF8 (n : Nat) : ∀ (m j : Nat), 32 - j < m → j ≤ 32 → eG N (bM n) m (j : Int) (zO n j) = some (U n)
  | 0, j, hm, _ => by omega
  | m + 1, j, hm, hj => by
    rw [eG]
    by_cases hh : j < 32
    · have hb : aW 32 (bM n) (j : Int) = some (byG n j) := by
        rw [cQ hh (by rw [bF]; exact hh)]; simp [bM]
      have hw : j / 8 < 4 := by omega
      have hr : j % 8 < 8 := by omega
      have hg : aW 4 (zO n j) ((3 - j / 8 : Nat) : Int) = some ((pC n (j / 8) j : Nat) : Int) := by
        rw [cQ (show 3 - j / 8 < 4 by omega) (by simp [zO]; omega)]
        have := aMx n j (j / 8) hw
        rw [List.getElem?_eq_getElem (by simp [zO]; omega)] at this
        exact this
      rw [show decide ((j : Int) < 32) = true from decide_eq_true (by omega), if_pos rfl, hb, show (8 : Int) = ((8 : Nat) : Int) from rfl, pU, cC (a := ((j / 8 : Nat) : Int)) (by omega) (by omega), cC (a := 3 - ((j / 8 : Nat) : Int)) (by omega) (by omega), show 3 - ((j / 8 : Nat) : Int) = ((3 - j / 8 : Nat) : Int) by omega]
      simp only [Option.bind_some, hg]
      have ej : j = 8 * (j / 8) + j % 8 := by omega
      obtain ⟨p1, p2⟩ := aEf (n := n) (w := j / 8) hr
      rw [← ej] at p1 p2
      have hs : shl .u64 ((pC n (j / 8) j : Nat) : Int) ((8 : Nat) : Int) = some ((2 ^ 8 * pC n (j / 8) j : Nat) : Int) := by
        unfold shl
        rw [if_neg (by omega), show min (Int.toNat ((8 : Nat) : Int)) IntKind.u64.bits = 8 from rfl, show ((pC n (j / 8) j : Nat) : Int) * 2 ^ 8 = ((2 ^ 8 * pC n (j / 8) j : Nat) : Int) by rw [Nat.mul_comm]; simp, uI (by omega) (by omega)]
      rw [hs]
      simp only [Option.bind_some]
      have hbt : qY n (j / 8) / 2 ^ (56 - 8 * (j % 8)) % 256 < 2 ^ 8 := Nat.mod_lt _ (by decide)
      rw [aEB n j hh, uI (by omega) (by have := hbt; omega), l5 rfl _ _ (by show _ < 2 ^ 64; omega) (by show _ < 2 ^ 64; omega), ← Nat.two_pow_add_eq_or_of_lt hbt]
      have := aL9 (n := n) hw hr
      rw [← ej] at this
      rw [Int.toNat_natCast, this, i1 (show j ≤ 100000 by omega)]
      exact aF8 n m (j + 1) (by omega) (by omega)
    · obtain rfl : j = 32 := by omega
      rw [show decide (((32 : Nat) : Int) < 32) = false from rfl, aOk]
      rfl
theorem tU (n : Nat) : eM N (bM n) = some (U n) := by
  have := aF8 hN n N 0 (by omega) (by omega)
  rw [aPK, show ((0 : Nat) : Int) = 0 from rfl] at this
  simp only [eM, cZ (bF n), Option.bind_some, r40, this, lP, aX]
end
end Go.Proofs.YtnoklhehodlkaaaGreatDoor
set_option linter.unusedSimpArgs false
set_option linter.unusedVariables false
set_option linter.unusedSectionVars false
namespace Go.Proofs.YtnoklhehodlkaaaGreatDoor
open Go Go.Vm
theorem aLn : ∀ j < 32, IntKind.i64.wrap (Int.tdiv (IntKind.i64.wrap (31 - ((j : Nat) : Int))) 8) = IntKind.i64.wrap (3 - IntKind.i64.wrap (Int.tdiv ((j : Nat) : Int) 8)) ∧ IntKind.i64.wrap (8 * (Int.tmod (IntKind.i64.wrap (31 - ((j : Nat) : Int))) 8)) = IntKind.i64.wrap (56 - IntKind.i64.wrap (Int.tmod ((j : Nat) : Int) 8 * 8)) := by decide +kernel
theorem aIR (N : Nat) (a : List Int) : ∀ (m j : Nat) (l : List Int), j ≤ 32 → i9 N a m (j : Int) l = iM N a m (j : Int) l
  | 0, _, _, _ => rfl
  | m + 1, j, l, hj => by
    unfold i9 iM
    by_cases h : j < 32
    · have hw : IntKind.i64.wrap ((j : Int) + 1) = ((j + 1 : Nat) : Int) := by rw [cC (by omega) (by omega)]; omega
      rw [(aLn j h).1, (aLn j h).2, hw]
      simp only [aIR N a m (j + 1) _ (by omega)]
    · rw [if_neg (by simp; omega), if_neg (by simp; omega)]
theorem aJZ (N : Nat) (hN : 70000 ≤ N) (n : Nat) : tC N (U n) = some (bM n) := by
  have h := aAv hN n
  unfold lS at h
  unfold tC
  rw [show i9 N (U n) N 0 (List.replicate 32 0) = _ from aIR N (U n) N 0 _ (by omega)]
  exact h
theorem z8 (N : Nat) (hN : 70000 ≤ N) (n : Nat) : jN N (U n) = some (bM n) := by
  unfold jN
  rw [aX, Option.bind_some, aJZ N hN, Option.bind_some, sV (bF n), Option.bind_some]
end Go.Proofs.YtnoklhehodlkaaaGreatDoor
set_option linter.unusedSimpArgs false
set_option linter.unusedVariables false
set_option linter.unusedSectionVars false
namespace Go.Proofs.YtnoklhehodlkaaaGreatDoor
open Go Go.Vm
def vW (n w j : Nat) : Nat := 2 ^ (64 - 8 * min 8 (j - 8 * w)) * pC n w j
def y4 (n j : Nat) : List Int := [(vW n 3 j : Int), (vW n 2 j : Int), (vW n 1 j : Int), (vW n 0 j : Int)]
theorem aM0 (n j w : Nat) (hw : w < 4) : (y4 n j)[3 - w]? = some ((vW n w j : Nat) : Int) := by
  match w, hw with
  | 0, _ => rfl
  | 1, _ => rfl
  | 2, _ => rfl
  | 3, _ => rfl
theorem aN1 (n w j : Nat) : vW n w j < 2 ^ 64 := Nat.lt_of_le_of_lt (Nat.mul_div_le _ _) (aEb n w)
theorem aL5 {n w r : Nat} (hr : r < 8) : vW n w (8 * w + r + 1) = 2 ^ (64 - 8 * r) * pC n w (8 * w + r) + 2 ^ (56 - 8 * r) * (qY n w / 2 ^ (56 - 8 * r) % 256) ∧ vW n w (8 * w + r) = 2 ^ (64 - 8 * r) * pC n w (8 * w + r) := by
  have e1 : 64 - 8 * min 8 (8 * w + r + 1 - 8 * w) = 56 - 8 * r := by omega
  have e2 : 64 - 8 * min 8 (8 * w + r - 8 * w) = 64 - 8 * r := by omega
  unfold vW
  rw [e1, e2, (aEf hr).1, Nat.mul_add, ← Nat.mul_assoc, ← Nat.pow_add, show 56 - 8 * r + 8 = 64 - 8 * r by omega]
  exact ⟨rfl, rfl⟩
theorem lN {n w w' r : Nat} (hr : r < 8) (hne : w' ≠ w) : vW n w' (8 * w + r + 1) = vW n w' (8 * w + r) := by
  unfold vW
  rw [kG hr hne, show min 8 (8 * w + r + 1 - 8 * w') = min 8 (8 * w + r - 8 * w') by omega]
theorem aK3 {n w r : Nat} (hw : w < 4) (hr : r < 8) : (y4 n (8 * w + r)).set (3 - w) ((vW n w (8 * w + r + 1) : Nat) : Int) = y4 n (8 * w + r + 1) := by
  match w, hw with
  | 0, _ => simp only [y4]; rw [lN (w' := 1) hr (by decide), lN (w' := 2) hr (by decide), lN (w' := 3) hr (by decide)]; rfl
  | 1, _ => simp only [y4]; rw [lN (w' := 0) hr (by decide), lN (w' := 2) hr (by decide), lN (w' := 3) hr (by decide)]; rfl
  | 2, _ => simp only [y4]; rw [lN (w' := 1) hr (by decide), lN (w' := 0) hr (by decide), lN (w' := 3) hr (by decide)]; rfl
  | 3, _ => simp only [y4]; rw [lN (w' := 1) hr (by decide), lN (w' := 2) hr (by decide), lN (w' := 0) hr (by decide)]; rfl
theorem aN9 (n : Nat) : y4 n 0 = [0, 0, 0, 0] := by
  have h : ∀ w, vW n w 0 = 0 := fun w => by
    unfold vW pC
    rw [show 64 - 8 * min 8 (0 - 8 * w) = 64 by omega, Nat.div_eq_of_lt (by have := aEb n w; exact this)]
  simp only [y4, h]; rfl
theorem aNE (n : Nat) : y4 n 32 = U n := by
  have h : ∀ w, w < 4 → vW n w 32 = qY n w := fun w hw => by
    unfold vW pC
    rw [show 64 - 8 * min 8 (32 - 8 * w) = 0 by omega]
    simp
  rw [aIv]; simp only [y4]; rw [h 0 (by decide), h 1 (by decide), h 2 (by decide), h 3 (by decide)]
section
variable {N : Nat} (hN : 70000 ≤ N)
include hN
theorem aGO (n : Nat) : ∀ (m j : Nat), 32 - j < m → j ≤ 32 → f5 N (bM n) m (j : Int) (y4 n j) = some (U n)
  | 0, j, hm, _ => by omega
  | m + 1, j, hm, hj => by
    rw [f5]
    by_cases hh : j < 32
    · have hb : aW 32 (bM n) (j : Int) = some (byG n j) := by
        rw [cQ hh (by rw [bF]; exact hh)]; simp [bM]
      have hw : j / 8 < 4 := by omega
      have hr : j % 8 < 8 := by omega
      have hg : aW 4 (y4 n j) ((3 - j / 8 : Nat) : Int) = some ((vW n (j / 8) j : Nat) : Int) := by
        rw [cQ (show 3 - j / 8 < 4 by omega) (by simp [y4]; omega)]
        have := aM0 n j (j / 8) hw
        rw [List.getElem?_eq_getElem (by simp [y4]; omega)] at this
        exact this
      have i1' : IntKind.i64.wrap (Int.tdiv (IntKind.i64.wrap (31 - (j : Int))) 8) = ((3 - j / 8 : Nat) : Int) := by
        rw [show 31 - (j : Int) = ((31 - j : Nat) : Int) by omega, cC (a := ((31 - j : Nat) : Int)) (by omega) (by omega), show (8 : Int) = ((8 : Nat) : Int) from rfl, pU, cC (by omega) (by omega), show (31 - j) / 8 = 3 - j / 8 by omega]
      have i2' : IntKind.i64.wrap (8 * (Int.tmod (IntKind.i64.wrap (31 - (j : Int))) 8)) = ((56 - 8 * (j % 8) : Nat) : Int) := by
        rw [show 31 - (j : Int) = ((31 - j : Nat) : Int) by omega, cC (a := ((31 - j : Nat) : Int)) (by omega) (by omega), show (Int.tmod ((31 - j : Nat) : Int) 8) = (((31 - j) % 8 : Nat) : Int) from p9 _ 8, cC (by omega) (by omega)]
        omega
      rw [show decide ((j : Int) < 32) = true from decide_eq_true (by omega), if_pos rfl, i1', i2', hg, Option.bind_some, hb, Option.bind_some]
      have ej : j = 8 * (j / 8) + j % 8 := by omega
      obtain ⟨p1, p2⟩ := aL5 (n := n) (w := j / 8) hr
      rw [← ej] at p1 p2
      have hbt : qY n (j / 8) / 2 ^ (56 - 8 * (j % 8)) % 256 < 256 := Nat.mod_lt _ (by decide)
      rw [aEB n j hh, uI (by omega) (by omega), uL (k := .u64) rfl, Option.bind_some]
      have hlt : 2 ^ (56 - 8 * (j % 8)) * (qY n (j / 8) / 2 ^ (56 - 8 * (j % 8)) % 256) < 2 ^ (64 - 8 * (j % 8)) := by
        have h8 : 2 ^ (64 - 8 * (j % 8)) = 2 ^ (56 - 8 * (j % 8)) * 256 := by rw [show 64 - 8 * (j % 8) = 56 - 8 * (j % 8) + 8 by omega, Nat.pow_add]
        rw [h8]
        exact (Nat.mul_lt_mul_left (Nat.pow_pos (by omega))).2 hbt
      have hle : 2 ^ (64 - 8 * (j % 8)) ≤ 2 ^ 64 := Nat.pow_le_pow_right (by omega) (by omega)
      have hval : qY n (j / 8) / 2 ^ (56 - 8 * (j % 8)) % 256 * 2 ^ (56 - 8 * (j % 8)) % 2 ^ IntKind.u64.bits = 2 ^ (56 - 8 * (j % 8)) * (qY n (j / 8) / 2 ^ (56 - 8 * (j % 8)) % 256) := by
        rw [Nat.mul_comm]
        exact Nat.mod_eq_of_lt (Nat.lt_of_lt_of_le hlt hle)
      rw [hval, l5 (k := .u64) rfl _ _ (aN1 n (j / 8) j) (Nat.lt_of_lt_of_le hlt hle), p2, ← Nat.two_pow_add_eq_or_of_lt hlt, ← p1]
      have := aK3 (n := n) hw hr
      rw [← ej] at this
      rw [Int.toNat_natCast, this, i1 (show j ≤ 100000 by omega)]
      exact aGO n m (j + 1) (by omega) (by omega)
    · obtain rfl : j = 32 := by omega
      rw [show decide (((32 : Nat) : Int) < 32) = false from rfl, aNE]
      rfl
theorem aGZ (n : Nat) : nX N (bM n) = some (U n) := by
  have := aGO hN n N 0 (by omega) (by omega)
  rw [aN9, show ((0 : Nat) : Int) = 0 from rfl] at this
  simp only [nX, Option.bind_some, r40, this, nN, aX]
theorem aCd {n : Nat} (hn : n < 115792089237316195423570985008687907853269984665640564039457584007913129639936) : kZ N (bM n) = some (U (n % 57896044618658097711785492504343953926634992332820282019728792003956564801911)) := by
  unfold kZ
  rw [sV (bF n), Option.bind_some, aGZ hN, Option.bind_some, ← tZ, aCa hN hn (by omega), Option.bind_some, aX, Option.bind_some, Nat.add_zero]
theorem aJJ {n : Nat} (hn : n < 115792089237316195423570985008687907853269984665640564039457584007913129639936) : mM N (bM n) = some (U (n % 57896044618658097711785492504343953926634992332820282019728792003956564801911)) := by
  unfold mM lB
  rw [sV (bF n), Option.bind_some, tU hN, Option.bind_some, ← tZ, aX, Option.bind_some, aX, Option.bind_some, zC, Option.bind_some, aGk hN (by omega) (by omega) hn (by omega), Option.bind_some, aX, Option.bind_some, Option.bind_some, aX, Option.bind_some, Nat.add_zero]
end
end Go.Proofs.YtnoklhehodlkaaaGreatDoor
set_option linter.unusedSimpArgs false
set_option linter.unusedVariables false
set_option linter.unusedSectionVars false
namespace Go.Proofs.YtnoklhehodlkaaaGreatDoor
open Go Go.Vm
section
variable (N : Nat) (b : List Nat) (hl : b.length = 64) (hb : ∀ x ∈ b, x < 256)
include hl hb
theorem aPe (hN : 70000 ≤ N) : eF N (iN b) N 0 (List.replicate 64 0) = some (aAZ b 0 (List.replicate 64 0)) := by
  refine aEI b (f := eF N (iN b)) (fun m j l hj hll hz => ?_) (fun m l => by rw [eF]; rfl) N 0 _ (by omega) (by omega) (by simp) (fun i _ hi => by rw [List.getElem?_replicate, if_pos hi])
  have g0 := uR hb (4 * j)
  have g1 := uR hb (4 * j + 1)
  have g2 := uR hb (4 * j + 2)
  have g3 := uR hb (4 * j + 3)
  rw [eF, show decide ((j : Int) < 16) = true from decide_eq_true (by omega), if_pos rfl]
  rw [cC (a := 4 * (j : Int)) (by omega) (by omega), cC (a := 4 * (j : Int) + 1) (by omega) (by omega), cC (a := 4 * (j : Int) + 2) (by omega) (by omega), cC (a := 4 * (j : Int) + 3) (by omega) (by omega)]
  rw [show 4 * (j : Int) = ((4 * j : Nat) : Int) by omega, show ((4 * j : Nat) : Int) + 1 = ((4 * j + 1 : Nat) : Int) by omega, show ((4 * j : Nat) : Int) + 2 = ((4 * j + 2 : Nat) : Int) by omega, show ((4 * j : Nat) : Int) + 3 = ((4 * j + 3 : Nat) : Int) by omega]
  rw [aBY hl (by omega), aBY hl (by omega), aBY hl (by omega), aBY hl (by omega), cQ (show j < 64 by omega) (by omega)]
  rw [show (24 : Int) = ((24 : Nat) : Int) from rfl, show (16 : Int) = ((16 : Nat) : Int) from rfl, show (8 : Int) = ((8 : Nat) : Int) from rfl]
  simp only [Option.bind_some, Int.toNat_natCast, i1 (show j ≤ 100000 by omega), aCk _ (show b.getD (4 * j) 0 < 4294967296 by omega), aCk _ (show b.getD (4 * j + 1) 0 < 4294967296 by omega), aCk _ (show b.getD (4 * j + 2) 0 < 4294967296 by omega), aCk _ (show b.getD (4 * j + 3) 0 < 4294967296 by omega), aNQ]
  congr 2
  unfold wd
  generalize b.getD (4 * j) 0 = a0 at *
  generalize b.getD (4 * j + 1) 0 = a1 at *
  generalize b.getD (4 * j + 2) 0 = a2 at *
  generalize b.getD (4 * j + 3) 0 = a3 at *
  rw [Nat.mod_eq_of_lt (show a0 * 2 ^ 24 < 4294967296 by omega), Nat.mod_eq_of_lt (show a1 * 2 ^ 16 < 4294967296 by omega), Nat.mod_eq_of_lt (show a2 * 2 ^ 8 < 4294967296 by omega)]
  rw [orU _ _ (by omega) (by omega), aDE a0 _ 24 (by omega)]
  rw [show a0 * 2 ^ 24 + a1 * 2 ^ 16 = (a0 * 2 ^ 8 + a1) * 2 ^ 16 by omega, orU _ _ (by omega) (by omega), aDE _ (a2 * 2 ^ 8) 16 (by omega)]
  rw [show (a0 * 2 ^ 8 + a1) * 2 ^ 16 + a2 * 2 ^ 8 = ((a0 * 2 ^ 8 + a1) * 2 ^ 8 + a2) * 2 ^ 8 by omega, orU _ _ (by omega) (by omega), aDE _ a3 8 (by omega)]
end
theorem aEV (N : Nat) (x n : Int) : gT N x n = cN N x n := rfl
theorem aHQ (N : Nat) : ∀ (m : Nat) (i : Int) (l : List Int), g7 N m i l = fV N m i l
  | 0, _, _ => rfl
  | m + 1, i, l => by simp only [g7, fV, aEV, aHQ N m]
theorem aF7 (N : Nat) (st w : List Int) : ∀ (m : Nat) (a b c d e f g h i : Int), gY N st w aAk m a b c d e f g h i = fS N st w m a b c d e f g h i
  | 0, _, _, _, _, _, _, _, _, _ => rfl
  | m + 1, a, b, c, d, e, f, g, h, i => by simp only [gY, fS, aEV, aF7 N st w m]
section
variable (N : Nat) (hN : 70000 ≤ N) (b : List Nat) (hl : b.length = 64) (hb : ∀ x ∈ b, x < 256)
include hN hl hb
theorem aIk : pL N (iN b) = mR N (iN b) := by
  simp only [pL, mR, aPe N b hl hb hN, sL4 N b hl hb hN, Option.bind_some, oZ, nP, aHQ, oX, oE]
theorem aFD (st : List Int) : mB N st (iN b) = jV N st (iN b) := by
  obtain ⟨w, h1, h2⟩ := aLh N hN b hl hb
  have hK : rC N = some aAk := rfl
  have hKl : aR 64 aAk = some aAk := rfl
  simp only [mB, jV, aIk N hN b hl hb, h1, hK, hKl, Option.bind_some, aF7, o4, oF]
end
theorem aE3 (N n : Nat) : ∀ (k m : Nat) (acc : List Int), k ≤ 8 → k < m → acc.length + k ≤ 1000 → k5 N (n : Int) m ((k : Int) - 1) acc = some (acc ++ (List.range' (8 - k) k).map (beG n))
  | 0, m, acc, _, hm, _ => by
    obtain ⟨m, rfl⟩ : ∃ q, m = q + 1 := ⟨m - 1, by omega⟩
    rw [k5, show decide ((0 : Int) ≤ ((0 : Nat) : Int) - 1) = false from rfl]; simp
  | k + 1, m, acc, hk, hm, ha => by
    obtain ⟨m, rfl⟩ : ∃ q, m = q + 1 := ⟨m - 1, by omega⟩
    rw [k5, show decide ((0 : Int) ≤ ((k + 1 : Nat) : Int) - 1) = true from decide_eq_true (by omega), if_pos rfl]
    rw [cC (a := 8 * (((k + 1 : Nat) : Int) - 1)) (by omega) (by omega), show 8 * (((k + 1 : Nat) : Int) - 1) = ((56 - 8 * (8 - (k + 1)) : Nat) : Int) by omega, aIF _ _ (by omega)]
    simp only [Option.bind_some]
    rw [rL (by simp; omega)]
    simp only [Option.bind_some]
    rw [cC (a := ((k + 1 : Nat) : Int) - 1 - 1) (by omega) (by omega), show ((k + 1 : Nat) : Int) - 1 - 1 = (k : Int) - 1 by omega, aE3 N n k m _ (by omega) (by omega) (by simp; omega), List.range'_succ, List.map_cons, show 8 - (k + 1) + 1 = 8 - k by omega, List.append_assoc]
    rfl
theorem aFp (N n : Nat) (hn : n ≤ 1000000000) : ∀ (z m : Nat) (l : List Int), z < 64 → z < m → l.length + z ≤ 1000 → (n + l.length + 8 + z) % 64 = 0 → mY N (n : Int) m l = some (l ++ List.replicate z 0)
  | z, 0, l, _, hm, _, _ => by omega
  | z, m + 1, l, hz, hm, hl, he => by
    rw [mY, uI (a := (l.length : Int)) (by omega) (by omega), uI (a := (n : Int) + (l.length : Int)) (by omega) (by omega), uI (a := (n : Int) + (l.length : Int) + 8) (by omega) (by omega)]
    rw [show (n : Int) + (l.length : Int) + 8 = ((n + l.length + 8 : Nat) : Int) by omega, show (64 : Int) = ((64 : Nat) : Int) from rfl, p9]
    match z with
    | 0 =>
      rw [show (n + l.length + 8) % 64 = 0 by simpa using he]
      simp
    | z + 1 =>
      have hne : (n + l.length + 8) % 64 ≠ 0 := by omega
      rw [show ((((n + l.length + 8) % 64 : Nat) : Int) != 0) = true by simp; omega, if_pos rfl, rL (by simp; omega)]
      simp only [Option.bind_some]
      rw [aFp N n hn z m _ (by omega) (by omega) (by simp; omega) (by simp; omega), List.replicate_succ, List.append_assoc]
      rfl
theorem aOF (N : Nat) (hN : 70000 ≤ N) (n : Nat) (hn : n ≤ 1000000000) : xI N (n : Int) = some (rJ n) := by
  have hz : uK n < 64 := Nat.mod_lt _ (by omega)
  have h2 : (n + 1 + 8 + uK n) % 64 = 0 := by unfold uK; omega
  unfold xI
  rw [aFp N n hn (uK n) N [128] hz (by omega) (by simp; omega) (by simpa using h2)]
  simp only [Option.bind_some, vQ]
  have := aE3 N n 8 N ([128] ++ List.replicate (uK n) 0) (by omega) (by omega) (by simp; omega)
  rw [show ((8 : Nat) : Int) - 1 = 7 from rfl] at this
  rw [this]; rfl
section
variable (N : Nat) (hN : 70000 ≤ N) (msg : List Int) (hb : Byt msg) (hl : msg.length ≤ 2000000)
include hN hb hl
theorem aE1 : ∀ (m j : Nat) (st : List Int), msg.length / 64 - j < m → j ≤ msg.length / 64 → st.length = 8 → mU N msg m ((64 * j : Nat) : Int) st = some (tY N msg st j (msg.length / 64 - j))
  | 0, j, st, hm, _, _ => by omega
  | m + 1, j, st, hm, hj, hst => by
    rw [mU, cC (a := ((64 * j : Nat) : Int) + 64) (by omega) (by omega)]
    by_cases h : j < msg.length / 64
    · have hlen : (q4 msg j).length = 64 := by simp [q4]; omega
      obtain ⟨c1, c2⟩ := aJd N hN st (q4 msg j) hst (aBo (aA5 hb _) _) hlen
      have c3 : mB N st (q4 msg j) = some (cmp N st (q4 msg j)) := by
        obtain ⟨bn, e1, e2⟩ := aHy (aBo (aA5 hb (64 * j)) 64)
        have e3 : q4 msg j = iN bn := e1
        rw [e3] at c1 hlen ⊢
        rw [aFD N hN bn (by rw [aDB] at hlen; exact hlen) e2]
        exact c1
      rw [show decide (((64 * j : Nat) : Int) + 64 ≤ (msg.length : Int)) = true from decide_eq_true (by omega), if_pos rfl]
      have e1 : sub msg ((64 * j : Nat) : Int) (msg.length : Int) = some (msg.drop (64 * j)) := by
        unfold sub
        rw [if_pos ⟨by omega, by omega, by omega⟩, Int.toNat_natCast, Int.toNat_natCast, List.take_of_length_le (Nat.le_refl _)]
      have e2 : yD (List.replicate 64 (0 : Int)) (msg.drop (64 * j)) = q4 msg j := by
        unfold yD q4
        rw [List.length_replicate, show List.drop (msg.drop (64 * j)).length (List.replicate 64 (0 : Int)) = [] from List.drop_eq_nil_of_le (by simp; omega), List.append_nil]
      simp only [e1, e2, Option.bind_some, cZ hst, cZ hlen, c3, cZ c2]
      rw [show ((64 * j : Nat) : Int) + 64 = ((64 * (j + 1) : Nat) : Int) by omega, aE1 m (j + 1) _ (by omega) (by omega) c2]
      unfold tY
      rw [show msg.length / 64 - j = (msg.length / 64 - (j + 1)) + 1 by omega, List.range'_succ, List.foldl_cons]
    · rw [show decide (((64 * j : Nat) : Int) + 64 ≤ (msg.length : Int)) = false from decide_eq_false (by omega), show msg.length / 64 - j = 0 by omega]
      rfl
end
section
variable (N : Nat) (hN : 70000 ≤ N) (st : List Int) (hst : st.length = 8)
include hN hst
theorem aFd : ∀ (m j : Nat), 8 - j < m → j ≤ 8 → mF N st m (j : Int) ((List.range (4 * j)).map (rQ st) ++ List.replicate (32 - 4 * j) 0) = some (aAP st)
  | 0, j, hm, _ => by omega
  | m + 1, j, hm, hj => by
    rw [mF]
    by_cases h : j < 8
    · rw [show decide ((j : Int) < 8) = true from decide_eq_true (by omega), if_pos rfl, aNd hst h]
      rw [cC (a := 4 * (j : Int)) (by omega) (by omega), cC (a := 4 * (j : Int) + 1) (by omega) (by omega), cC (a := 4 * (j : Int) + 2) (by omega) (by omega), cC (a := 4 * (j : Int) + 3) (by omega) (by omega)]
      rw [show 4 * (j : Int) = ((4 * j : Nat) : Int) by omega, show ((4 * j : Nat) : Int) + 1 = ((4 * j + 1 : Nat) : Int) by omega, show ((4 * j : Nat) : Int) + 2 = ((4 * j + 2 : Nat) : Int) by omega, show ((4 * j : Nat) : Int) + 3 = ((4 * j + 3 : Nat) : Int) by omega]
      rw [show (24 : Int) = ((24 : Nat) : Int) from rfl, show (16 : Int) = ((16 : Nat) : Int) from rfl]
      simp only [Option.bind_some, Int.toNat_natCast, i1 (show j ≤ 100000 by omega)]
      rw [show (8 : Int) = ((8 : Nat) : Int) from rfl, aFL _ 24 (by omega), aFL _ 16 (by omega), aFL _ 8 (by omega)]
      simp only [Option.bind_some]
      have o0 : IntKind.u8.wrap ((st.getD j 0).fdiv (2 ^ 24)) = rQ st (4 * j) := by unfold rQ; rw [show 4 * j / 4 = j by omega, show 4 * j % 4 = 0 by omega]
      have o1 : IntKind.u8.wrap ((st.getD j 0).fdiv (2 ^ 16)) = rQ st (4 * j + 1) := by unfold rQ; rw [show (4 * j + 1) / 4 = j by omega, show (4 * j + 1) % 4 = 1 by omega]
      have o2 : IntKind.u8.wrap ((st.getD j 0).fdiv (2 ^ 8)) = rQ st (4 * j + 2) := by unfold rQ; rw [show (4 * j + 2) / 4 = j by omega, show (4 * j + 2) % 4 = 2 by omega]
      have o3 : IntKind.u8.wrap (st.getD j 0) = rQ st (4 * j + 3) := by
        unfold rQ; rw [show (4 * j + 3) / 4 = j by omega, show (4 * j + 3) % 4 = 3 by omega]
        congr 1
        generalize st.getD j 0 = x
        simp
      rw [o0, o1, o2, o3, uO (rQ st) 32 (4 * j) (by omega), uO (rQ st) 32 (4 * j + 1) (by omega), uO (rQ st) 32 (4 * j + 2) (by omega), uO (rQ st) 32 (4 * j + 3) (by omega)]
      rw [cQ (show 4 * j < 32 by omega) (by simp; omega), cQ (show 4 * j + 1 < 32 by omega) (by simp; omega), cQ (show 4 * j + 2 < 32 by omega) (by simp; omega), cQ (show 4 * j + 3 < 32 by omega) (by simp; omega)]
      simp only [Option.bind_some]
      exact aFd m (j + 1) (by omega) (by omega)
    · obtain rfl : j = 8 := by omega
      rw [show decide (((8 : Nat) : Int) < 8) = false from rfl]
      simp [aAP]
end
theorem aHI (N : Nat) (hN : 70000 ≤ N) (b : List Int) (hb : Byt b) (hl : b.length ≤ 1000000) : uQ N b = some (sha256 N b) := by
  have hz : uK b.length < 64 := Nat.mod_lt _ (by omega)
  have hpl := aGc b.length
  have hmb : Byt (b ++ rJ b.length) := hb.append (aGT _)
  have hml : (b ++ rJ b.length).length ≤ 2000000 := by rw [List.length_append]; omega
  obtain ⟨s1, s2⟩ := aCV N hN _ hmb hml N 0 tB (by omega) (by omega) rfl
  have s3 := aE1 N hN _ hmb hml N 0 tB (by omega) (by omega) rfl
  rw [Nat.sub_zero] at s2
  rw [show ((64 * 0 : Nat) : Int) = 0 from rfl, Nat.sub_zero] at s3
  have hw : IntKind.u64.wrap (b.length : Int) = (b.length : Int) := uI (by omega) (by omega)
  have o := aFd N hN (tY N (b ++ rJ b.length) tB 0 ((b ++ rJ b.length).length / 64)) s2 N 0 (by omega) (by omega)
  simp only [Nat.mul_zero, List.range_zero, List.map_nil, List.nil_append, Nat.sub_zero] at o
  rw [show ((0 : Nat) : Int) = 0 from rfl] at o
  have hI : t8 N = some tB := rfl
  have hIa : aR 8 tB = some tB := rfl
  simp only [uQ]
  rw [rL (by simp; omega)]
  simp only [Option.bind_some, List.nil_append, hw, aOF N hN b.length (by omega)]
  rw [rL (by omega)]
  simp only [Option.bind_some, hI, hIa, s3, vJ, cZ s2, o, vB, cZ (aC6 _)]
  rfl
theorem aD3 (N : Nat) (hN : 70000 ≤ N) (tag : ByteArray) (ht : tag.size ≤ 1000) (b : List Int) (hb : Byt b) (hl : b.length ≤ 900000) : o7 N tag b = some (zA N tag b) := by
  have hlim := lO
  have hs : stb tag = some (dZ tag) := by unfold stb; rw [if_pos (by omega)]
  have s2 := aHI N hN (dZ tag) (aCI tag) (by rw [tE]; omega)
  have l1 := pT N (dZ tag)
  have t2 := aHI N hN (sha256 N (dZ tag) ++ (sha256 N (dZ tag) ++ b)) ((sN _ _).append ((sN _ _).append hb)) (by simp only [List.length_append, l1]; omega)
  simp only [o7, hs, s2, Option.bind_some, cZ l1]
  rw [rL (by simp [l1])]
  simp only [Option.bind_some, List.nil_append]
  rw [rL (by simp [l1])]
  simp only [Option.bind_some]
  rw [rL (by simp [l1]; omega)]
  simp only [Option.bind_some, List.append_assoc, t2, cZ (pT N _)]
  rfl
end Go.Proofs.YtnoklhehodlkaaaGreatDoor
set_option linter.unusedSimpArgs false
set_option linter.unusedVariables false
set_option linter.unusedSectionVars false
namespace Go.Proofs.YtnoklhehodlkaaaGreatDoor
open Go Go.Vm
def sL (f : Nat → Nat) (w : Nat) : Nat := f (8 * w) * 72057594037927936 + f (8 * w + 1) * 281474976710656 + f (8 * w + 2) * 1099511627776 + f (8 * w + 3) * 4294967296 + f (8 * w + 4) * 16777216 + f (8 * w + 5) * 65536 + f (8 * w + 6) * 256 + f (8 * w + 7)
theorem pW {f : Nat → Nat} (hf : ∀ i, f i < 256) (w : Nat) : sL f w < 18446744073709551616 ∧ ∀ r, r < 8 → sL f w / 2 ^ (56 - 8 * r) % 256 = f (8 * w + r) := by
  have h0 := hf (8 * w)
  have h1 := hf (8 * w + 1)
  have h2 := hf (8 * w + 2)
  have h3 := hf (8 * w + 3)
  have h4 := hf (8 * w + 4)
  have h5 := hf (8 * w + 5)
  have h6 := hf (8 * w + 6)
  have h7 := hf (8 * w + 7)
  unfold sL
  refine ⟨by omega, fun r hr => ?_⟩
  match r, hr with
  | 0, _ => show _ / 72057594037927936 % 256 = f (8 * w); omega
  | 1, _ => show _ / 281474976710656 % 256 = _; omega
  | 2, _ => show _ / 1099511627776 % 256 = _; omega
  | 3, _ => show _ / 4294967296 % 256 = _; omega
  | 4, _ => show _ / 16777216 % 256 = _; omega
  | 5, _ => show _ / 65536 % 256 = _; omega
  | 6, _ => show _ / 256 % 256 = _; omega
  | 7, _ => show _ / 1 % 256 = _; omega
def byF (h : List Int) (i : Nat) : Nat := ((h.getD i 0).toNat) % 256
def xA (h : List Int) : Nat := vl (sL (byF h) 3) (sL (byF h) 2) (sL (byF h) 1) (sL (byF h) 0)
theorem vA (h : List Int) (i : Nat) : byF h i < 256 := Nat.mod_lt _ (by decide)
theorem aA1 (h : List Int) : xA h < 115792089237316195423570985008687907853269984665640564039457584007913129639936 :=
  aCy (pW (vA h) 3).1 (pW (vA h) 2).1 (pW (vA h) 1).1 (pW (vA h) 0).1
theorem aAd {h : List Int} (hl : h.length = 32) (hb : Byt h) : bM (xA h) = h := by
  have hw : ∀ w, w < 4 → qY (xA h) w = sL (byF h) w := by
    have e := aIv (xA h)
    rw [show U (xA h) = w4 (sL (byF h) 3) (sL (byF h) 2) (sL (byF h) 1) (sL (byF h) 0) from (aCQ (pW (vA h) 3).1 (pW (vA h) 2).1 (pW (vA h) 1).1 (pW (vA h) 0).1).symm] at e
    simp only [w4, List.cons.injEq, Int.natCast_inj, and_true] at e
    obtain ⟨e3, e2, e1, e0⟩ := e
    intro w hw
    match w, hw with
    | 0, _ => exact e0.symm
    | 1, _ => exact e1.symm
    | 2, _ => exact e2.symm
    | 3, _ => exact e3.symm
  refine List.ext_getElem (by rw [bF, hl]) fun i h1 h2 => ?_
  rw [bF] at h1
  have hg : (bM (xA h))[i]'(by rw [bF]; exact h1) = byG (xA h) i := by simp [bM]
  rw [hg, aEB _ i h1, hw (i / 8) (by omega), (pW (vA h) (i / 8)).2 (i % 8) (by omega), show 8 * (i / 8) + i % 8 = i by omega]
  have hx := hb h[i] (List.getElem_mem h2)
  unfold byF
  rw [List.getD_eq_getElem?_getD, List.getElem?_eq_getElem h2, Option.getD_some]
  omega
theorem rE : gQ < 115792089237316195423570985008687907853269984665640564039457584007913129639936 := by decide +kernel
theorem aDr (a : Nat) : a % gP < 115792089237316195423570985008687907853269984665640564039457584007913129639936 := Nat.lt_trans (Nat.mod_lt _ (by decide +kernel)) (by decide +kernel)
section
variable {N : Nat} (hN : 70000 ≤ N)
include hN
theorem aIC (l : List (List Int)) (hn : l.length ≤ 1000) (ht : l.flatten.length ≤ 40000000) : lQ N l = some l.flatten := by
  have := aAY (f := j9 N l) l hn (by omega) (fun m j acc hj hB => by
    rw [j9, dT hj, if_pos rfl, eY l hj, Option.bind_some]
    unfold u2
    rw [show ((acc.length : Int) + (l[j].length : Int)) = ((acc.length + l[j].length : Nat) : Int) by omega, cC (by omega) (by omega), aNi (by have := lO; omega), Option.bind_some, List.take_zero, rL (by simp; omega), Option.bind_some, List.nil_append, rL (by omega)]
    simp only [Option.bind_some, i1 (show j ≤ 100000 by omega)]) (fun m j acc hj => by rw [j9, dF (by omega)]; rfl) N hN
  unfold lQ
  rw [this]; rfl
def uH (N r p : Nat) (m : List Int) : Nat := xA (zA N vR (bM r ++ (bM p ++ m))) % gQ
omit hN in
theorem aEl (N r p : Nat) (m : List Int) : uH N r p m < gQ := Nat.mod_lt _ (by decide)
theorem aHo (r p : Nat) {m : List Int} (hm : m.length = 32) (hb : Byt m) : kI N (U r) (U p) m = some (U (uH N r p m)) := by
  have hs := aJJ hN (aA1 (zA N vR (bM r ++ (bM p ++ m))))
  rw [aAd (yR N vR _) (aBj N vR _)] at hs
  have hrow : uF N [bM r, bM p, m] = some (bM r ++ (bM p ++ m)) := by
    rw [grow hN _ (by simp) (fun x hx => by
      simp only [List.mem_cons, List.not_mem_nil, or_false] at hx
      rcases hx with rfl | rfl | rfl
      · exact bF _
      · exact bF _
      · exact hm)]
    simp
  have ht := aEX N hN vR (by decide) (bM r ++ (bM p ++ m)) ((pE _).append ((pE _).append hb)) (by simp [bF, hm])
  simp only [kI, aX, aAv hN, cZ hm, cZ (bF _), hrow, Option.bind_some]
  rw [show (⟨#[108, 105, 103, 104, 116, 99, 108, 105, 101, 110, 116, 47, 99, 104, 97, 108, 108, 101, 110, 103, 101]⟩ : ByteArray) = vR from rfl, ht]
  simp only [Option.bind_some, hs, aX]
  rfl
theorem aFZ (r p : Nat) {m : List Int} (hm : m.length = 32) (hb : Byt m) : n8 N (U r) (U p) m = some (U (uH N r p m)) := by
  have hs := aCd hN (aA1 (zA N vR (bM r ++ (bM p ++ m))))
  rw [aAd (yR N vR _) (aBj N vR _)] at hs
  have hrow : lQ N [bM r, bM p, m] = some (bM r ++ (bM p ++ m)) := by
    rw [aIC hN _ (by simp) (by simp [bF, hm])]
    simp
  have ht := aD3 N hN vR (by decide) (bM r ++ (bM p ++ m)) ((pE _).append ((pE _).append hb)) (by simp [bF, hm])
  simp only [n8, aX, z8 N hN, cZ hm, hrow, Option.bind_some]
  rw [show (⟨#[108, 105, 103, 104, 116, 99, 108, 105, 101, 110, 116, 47, 99, 104, 97, 108, 108, 101, 110, 103, 101]⟩ : ByteArray) = vR from rfl, ht]
  simp only [Option.bind_some, hs, aX]
  rfl
theorem aI4 {h : List Int} (hl : h.length = 32) (hb : Byt h) : ∃ k, k < gQ ∧ kZ N h = some (U k) := by
  have hs := aCd hN (aA1 h)
  rw [aAd hl hb] at hs
  exact ⟨_, Nat.mod_lt _ (by decide), hs⟩
theorem aJq (x : Nat) {m : List Int} (hm : m.length = 32) (hb : Byt m) : ∃ k, k < gQ ∧ tO N (U x) m = some (U k) := by
  have hrow : lQ N [bM x, m] = some (bM x ++ m) := by
    rw [aIC hN _ (by simp) (by simp [bF, hm])]
    simp
  have ht := aD3 N hN ⟨#[108, 105, 103, 104, 116, 99, 108, 105, 101, 110, 116, 47, 110, 111, 110, 99, 101]⟩ (by decide) (bM x ++ m) ((pE _).append hb) (by simp [bF, hm])
  obtain ⟨k, hk, hs⟩ := aI4 hN (yR N ⟨#[108, 105, 103, 104, 116, 99, 108, 105, 101, 110, 116, 47, 110, 111, 110, 99, 101]⟩ (bM x ++ m)) (aBj N _ _)
  unfold tO
  simp only [aX, z8 N hN, cZ hm, hrow, ht, hs, Option.bind_some, aAu (N := N) (Nat.lt_trans hk rE)]
  by_cases h0 : k = 0
  · refine ⟨1, by decide +kernel, ?_⟩
    rw [if_pos (decide_eq_true h0)]
    rfl
  · refine ⟨k, hk, ?_⟩
    rw [if_neg (by simpa using h0)]
theorem aMl {x : Nat} (h0 : x ≠ 0) (hx : x < gQ) {m : List Int} (hm : m.length = 32) (hb : Byt m) :
    ∃ k c, k < gQ ∧ c = uH N (4 ^ k % gP) (4 ^ x % gP) m ∧ vC N (U x) m = some (U c, U ((k + c * x) % gQ), 0) := by
  obtain ⟨k, hk, hn⟩ := aJq hN x hm hb
  refine ⟨k, _, hk, rfl, ?_⟩
  have hc := aEl N (4 ^ k % gP) (4 ^ x % gP) m
  have hcx : uH N (4 ^ k % gP) (4 ^ x % gP) m * x % gQ < gQ := Nat.mod_lt _ (by decide)
  unfold vC
  rw [aX, Option.bind_some, aFl hN h0 hx, Option.bind_some, aX, Option.bind_some]
  simp only [show ((0 : Int) != 0) = false from rfl, Bool.false_eq_true, if_false, cZ hm, Option.bind_some, hn, aX]
  rw [aGC hN (Nat.lt_trans hk rE), Option.bind_some, aFZ hN _ _ hm hb, Option.bind_some, aX, Option.bind_some, aGY hN (Nat.lt_trans hc rE) (Nat.lt_trans hx rE), Option.bind_some, aCa hN (Nat.lt_trans hk rE) (Nat.lt_trans hcx rE), Option.bind_some, aX, Option.bind_some, Nat.add_mod_mod]
end
end Go.Proofs.YtnoklhehodlkaaaGreatDoor
set_option linter.unusedSimpArgs false
set_option linter.unusedVariables false
set_option linter.unusedSectionVars false
namespace Go.Proofs.YtnoklhehodlkaaaGreatDoor
open Go Go.Vm
section
variable {N : Nat} (hN : 70000 ≤ N)
include hN
theorem aJW {e : Nat} (he : e < 115792089237316195423570985008687907853269984665640564039457584007913129639936) : qP N (U e) = some (U (4 ^ e % gP)) := by
  unfold qP
  rw [show eH N 4 = some (U 4) from rfl, Option.bind_some, aX, Option.bind_some, aCs hN (by decide +kernel) he, Option.bind_some, aX, Option.bind_some]
theorem aKX (x : Nat) : mV N (U (4 ^ x % gP)) = some true := by
  have hp := aDr (4 ^ x)
  have h0 : (U (4 ^ x % gP) == [0, 0, 0, 0]) = false := by
    rw [← tZ, aAT hp (by decide +kernel)]
    exact decide_eq_false (aMD x)
  have hm : 4 ^ x % gP < gP := Nat.mod_lt _ (by decide +kernel)
  have he := aCs hN hp rE
  rw [show (4 ^ x % gP) ^ gQ % 115792089237316195423570985008687907853269984665640564039457584007913129603823 = 1 from aLi x] at he
  unfold mV
  rw [aX, Option.bind_some, h0]
  simp only [Bool.false_eq_true, if_false]
  rw [aGp, Option.bind_some, vI hN hp (by decide +kernel), Option.bind_some, aDy, decide_eq_false (Nat.not_le.2 hm)]
  unfold jG
  simp only [Bool.false_eq_true, if_false]
  rw [aX, Option.bind_some, zC, Option.bind_some, he, Option.bind_some]
  rfl
theorem aEA {x : Nat} (h1 : 4 ^ x % gP ≠ 1) : oC N (U (4 ^ x % gP)) = some true := by
  unfold oC
  rw [aX, Option.bind_some, show eH N 1 = some (U 1) from rfl, Option.bind_some, aX, Option.bind_some, aAT (aDr _) (by decide +kernel), decide_eq_false h1]
  simp only [Bool.not_false, if_true]
  rw [aKX hN, Option.bind_some]
  rfl
theorem aKj {k x : Nat} (hk : k < gQ) (h1 : 4 ^ x % gP ≠ 1) {m : List Int} (hm : m.length = 32) (hb : Byt m) :
    oP N (U (4 ^ x % gP)) m (U (uH N (4 ^ k % gP) (4 ^ x % gP) m)) (U ((k + uH N (4 ^ k % gP) (4 ^ x % gP) m * x) % gQ)) = some true := by
  have hc := aEl N (4 ^ k % gP) (4 ^ x % gP) m
  have hch := aHo hN (4 ^ k % gP) (4 ^ x % gP) hm hb
  generalize uH N (4 ^ k % gP) (4 ^ x % gP) m = c at *
  have hs : (k + c * x) % gQ < gQ := Nat.mod_lt _ (by decide +kernel)
  have hv := aLN (k := k) (x := x) (Nat.le_of_lt hc)
  generalize (k + c * x) % gQ = s at *
  have hp := aDr (4 ^ x)
  have hc4 := Nat.lt_trans hc rE
  have hs4 := Nat.lt_trans hs rE
  have hd : (gQ + 115792089237316195423570985008687907853269984665640564039457584007913129639936 - c) % 115792089237316195423570985008687907853269984665640564039457584007913129639936 = gQ - c := by
    have := rE
    revert hc this
    generalize gQ = Q
    intro hc this
    omega
  have hd4 : gQ - c < 115792089237316195423570985008687907853269984665640564039457584007913129639936 := Nat.lt_of_le_of_lt (Nat.sub_le _ _) rE
  unfold oP
  rw [aX, Option.bind_some, rH hN hc4, Option.bind_some, decide_eq_true (show c < 57896044618658097711785492504343953926634992332820282019728792003956564801911 from hc)]
  simp only [Bool.not_true, Bool.false_eq_true, if_false]
  rw [aX, Option.bind_some, rH hN hs4, Option.bind_some, decide_eq_true (show s < 57896044618658097711785492504343953926634992332820282019728792003956564801911 from hs)]
  simp only [Bool.not_true, Bool.false_eq_true, if_false]
  rw [aX, Option.bind_some, aEA hN h1, Option.bind_some]
  unfold i6
  simp only [Bool.not_true, Bool.false_eq_true, if_false]
  rw [zC, Option.bind_some, aX, Option.bind_some, aCn hN (show gQ < _ from rE) hc4, Option.bind_some, hd]
  simp only [aX, Option.bind_some]
  rw [aJW hN hs4, Option.bind_some, aCs hN hp hd4, Option.bind_some, aIf hN (aDr _) (aDr _), Option.bind_some, show 4 ^ s % gP * ((4 ^ x % gP) ^ (gQ - c) % gP) % gP = 4 ^ k % gP from hv, aX, Option.bind_some, cZ hm, Option.bind_some, hch, Option.bind_some, aX, Option.bind_some, aAT hc4 hc4, decide_eq_true rfl]
theorem aKM {c s : Nat} (hc : c < gQ) (hs : s < gQ) : oK N (bM c ++ bM s) = some (U c, U s, 0) := by
  have hl : (bM c ++ bM s).length = 64 := by simp [bF]
  have e1 : sub (bM c ++ bM s) 0 32 = some (bM c) := by
    unfold sub
    rw [if_pos ⟨by omega, by omega, by rw [hl]; decide⟩, show Int.toNat 32 = 32 from rfl, List.take_left' (bF c)]
    rfl
  have e2 : sub (bM c ++ bM s) 32 (((bM c ++ bM s).length : Nat) : Int) = some (bM s) := by
    unfold sub
    rw [if_pos ⟨by omega, by rw [hl]; decide, Int.le_refl _⟩, Int.toNat_natCast, List.take_of_length_le (Nat.le_refl _), show Int.toNat 32 = 32 from rfl, List.drop_left' (bF c)]
  have a1 : nM 32 (bM c) = some (bM c) := by
    unfold nM
    rw [if_pos (by rw [bF]; exact Nat.le_refl _), List.take_of_length_le (by rw [bF]; exact Nat.le_refl _)]
  have a2 : nM 32 (bM s) = some (bM s) := by
    unfold nM
    rw [if_pos (by rw [bF]; exact Nat.le_refl _), List.take_of_length_le (by rw [bF]; exact Nat.le_refl _)]
  unfold oK
  rw [if_neg (by rw [hl]; decide), e1, Option.bind_some, a1, Option.bind_some, tU hN, Option.bind_some, e2, Option.bind_some, a2, Option.bind_some, tU hN, Option.bind_some, aX, Option.bind_some, aX, Option.bind_some, rH hN (Nat.lt_trans hc rE), Option.bind_some, decide_eq_true (show c < 57896044618658097711785492504343953926634992332820282019728792003956564801911 from hc)]
  simp only [Bool.not_true, Bool.false_eq_true, if_false]
  rw [rH hN (Nat.lt_trans hs rE), Option.bind_some, decide_eq_true (show s < 57896044618658097711785492504343953926634992332820282019728792003956564801911 from hs)]
  rfl
end
end Go.Proofs.YtnoklhehodlkaaaGreatDoor
set_option linter.unusedSimpArgs false
set_option linter.unusedVariables false
set_option linter.unusedSectionVars false
namespace Go.Proofs.YtnoklhehodlkaaaGreatDoor
open Go Go.Vm
theorem aC1 {N : Nat} (hN : 70000 ≤ N) (l : List (List Int)) (hn : l.length ≤ 1000) (ht : l.flatten.length ≤ 50000000) : iO N l = some l.flatten := by
  have := aAY (f := j8 N l) l hn ht (fun m j acc hj hB => by
    rw [j8, dT hj, if_pos rfl, eY l hj, Option.bind_some, rL (by omega)]
    simp only [Option.bind_some, i1 (show j ≤ 100000 by omega)]) (fun m j acc hj => by rw [j8, dF (by omega)]; rfl) N hN
  unfold iO
  rw [this]; rfl
def tJ (m n : Int) : Bool := decide (1 ≤ n) && decide (n ≤ 15) && decide (1 ≤ m) && decide (m ≤ n)
theorem aGF (N : Nat) (m n : Int) : l8 N m n = some (tJ m n) := by
  unfold l8 tJ gZ
  cases decide (1 ≤ n) <;> cases decide (n ≤ 15) <;> cases decide (1 ≤ m) <;> rfl
def e8 (x : Int) (r : List Int) : aM × List Int × Int :=
  if x < 1 ∨ 17 < x then (⟨0, [], 0, 0⟩, [], 80)
  else if x = 1 then
    match r with
    | [] => (⟨0, [], 0, 0⟩, [], 1)
    | n :: r' => if (r'.length : Int) < n then (⟨0, [], 0, 0⟩, [], 1) else (⟨1, r'.take n.toNat, 0, 0⟩, r'.drop n.toNat, 0)
  else if x = 11 then
    match r with
    | m :: n :: r' => if tJ m n = true then (⟨11, [], m, n⟩, r', 0) else (⟨0, [], 0, 0⟩, [], 5)
    | _ => (⟨0, [], 0, 0⟩, [], 1)
  else (⟨x, [], 0, 0⟩, r, 0)
theorem aC7 {α : Type} (x : α) (l : List α) : cU (x :: l) 0 = some x := rfl
theorem aM4 {α : Type} (x y : α) (l : List α) : cU (x :: y :: l) 1 = some y := rfl
theorem aOK {α : Type} (x : α) (l : List α) : sub (x :: l) 1 (((x :: l).length : Nat) : Int) = some l := by
  unfold sub
  rw [if_pos ⟨by omega, by simp; omega, by omega⟩, Int.toNat_natCast, List.take_of_length_le (Nat.le_refl _)]; rfl
theorem aPP {α : Type} (x y : α) (l : List α) : sub (x :: y :: l) 2 (((x :: y :: l).length : Nat) : Int) = some l := by
  unfold sub
  rw [if_pos ⟨by omega, by simp; omega, by omega⟩, Int.toNat_natCast, List.take_of_length_le (Nat.le_refl _)]; rfl
theorem aMF {N : Nat} (hN : 70000 ≤ N) {x : Int} {r : List Int} (hb : Byt (x :: r)) (hl : r.length ≤ 100000) :
    tR N (x :: r) = some ((e8 x r).1.Code, (e8 x r).1.Data, (e8 x r).1.M, (e8 x r).1.N, (e8 x r).2.1, (e8 x r).2.2) := by
  have hx := hb x (by simp)
  have wx : IntKind.i64.wrap x = x := cC (by omega) (by omega)
  have hk : kT N x = some (decide (1 ≤ x) && decide (x ≤ 17)) := by
    unfold kT nW
    cases decide (1 ≤ x) <;> rfl
  unfold tR e8
  simp only [aC7, Option.bind_some, wx, hk, aOK]
  by_cases h0 : x < 1 ∨ 17 < x
  · rw [if_pos h0]
    have : (decide (1 ≤ x) && decide (x ≤ 17)) = false := by
      rcases h0 with h | h
      · rw [decide_eq_false (by omega)]; rfl
      · rw [decide_eq_false (show ¬ x ≤ 17 by omega), Bool.and_false]
    rw [this]; rfl
  · rw [if_neg h0, show (decide (1 ≤ x) && decide (x ≤ 17)) = true by rw [decide_eq_true (by omega), decide_eq_true (by omega)]; rfl]
    simp only [Bool.not_true, Bool.false_eq_true, if_false]
    by_cases h1 : x = 1
    · subst h1
      rw [if_pos rfl, show ((1 : Int) == 1) = true from rfl, if_pos rfl]
      match r, hb, hl with
      | [], _, _ => rfl
      | n :: r', hb, hl =>
        have hn := hb n (by simp)
        have wn : IntKind.i64.wrap n = n := cC (by omega) (by omega)
        rw [show ((((n :: r').length : Nat) : Int) == 0) = false by simp; omega]
        simp only [Bool.false_eq_true, if_false, aC7, Option.bind_some, wn]
        have hl' : r'.length + 1 ≤ 100000 := by simpa using hl
        rw [show (((n :: r').length : Nat) : Int) - 1 = ((r'.length : Nat) : Int) by simp, cC (a := ((r'.length : Nat) : Int)) (by omega) (by omega)]
        by_cases h2 : (r'.length : Int) < n
        · rw [decide_eq_true h2, if_pos h2]; rfl
        · rw [decide_eq_false h2, if_neg h2]
          have e1 : sub (n :: r') 1 (IntKind.i64.wrap (1 + n)) = some (r'.take n.toNat) := by
            rw [cC (by omega) (by omega)]
            unfold sub
            rw [if_pos ⟨by omega, by omega, by simp; omega⟩, show (1 + n).toNat = n.toNat + 1 by omega]; rfl
          have e2 : sub (n :: r') (IntKind.i64.wrap (1 + n)) (((n :: r').length : Nat) : Int) = some (r'.drop n.toNat) := by
            rw [cC (by omega) (by omega)]
            unfold sub
            rw [if_pos ⟨by omega, by simp; omega, by omega⟩, show (1 + n).toNat = n.toNat + 1 by omega, Int.toNat_natCast, List.take_of_length_le (Nat.le_refl _)]; rfl
          have e3 : iO N [r'.take n.toNat] = some (r'.take n.toNat) := by
            rw [aC1 hN _ (by simp) (by simp; omega)]; simp
          simp only [pK, Bool.false_eq_true, if_false, aC7, Option.bind_some, wn, e1, e2, e3, kE]
          rfl
    · rw [if_neg h1, show (x == 1) = false by simpa using h1]
      simp only [Bool.false_eq_true, if_false]
      by_cases h2 : x = 11
      · subst h2
        rw [if_pos rfl, show ((11 : Int) == 11) = true from rfl, if_pos rfl]
        match r, hb, hl with
        | [], _, _ => rfl
        | [m], _, _ => rfl
        | m :: n :: r', hb, hl =>
          have hm := hb m (by simp)
          have hn := hb n (by simp)
          have wm : IntKind.i64.wrap m = m := cC (by omega) (by omega)
          have wn : IntKind.i64.wrap n = n := cC (by omega) (by omega)
          rw [show decide ((((m :: n :: r').length : Nat) : Int) < 2) = false from decide_eq_false (by simp; omega)]
          simp only [Bool.false_eq_true, if_false, aC7, aM4, Option.bind_some, wm, wn, aPP, aGF]
          cases hr : tJ m n with
          | false => rfl
          | true => rfl
      · rw [if_neg h2, show (x == 11) = false by simpa using h2]
        simp only [Bool.false_eq_true, if_false, kE, wx]
structure VOp (o : aM) : Prop where
  data : Byt o.Data ∧ o.Data.length ≤ 255
  multi : o.Code = 11 → 1 ≤ o.M ∧ o.M ≤ o.N ∧ o.N ≤ 15
theorem aDg {x : Int} {r : List Int} (hb : Byt (x :: r)) (he : (e8 x r).2.2 = 0) : VOp (e8 x r).1 ∧ Byt (e8 x r).2.1 ∧ (e8 x r).2.1.length ≤ r.length ∧ ∀ t, e8 x (r ++ t) = ((e8 x r).1, (e8 x r).2.1 ++ t, 0) := by
  have hr : Byt r := fun y hy => hb y (by simp [hy])
  unfold e8 at he ⊢
  by_cases h0 : x < 1 ∨ 17 < x
  · rw [if_pos h0] at he; cases he
  · simp only [if_neg h0] at he ⊢
    by_cases h1 : x = 1
    · subst h1
      simp only [if_true] at he ⊢
      match r, hr, he with
      | [], _, he => cases he
      | n :: r', hr, he =>
        simp only at he ⊢
        by_cases h2 : (r'.length : Int) < n
        · rw [if_pos h2] at he; cases he
        · simp only [if_neg h2] at he ⊢
          have hn := hr n (by simp)
          have hr' : Byt r' := fun y hy => hr y (by simp [hy])
          refine ⟨⟨⟨aBo hr' _, by simp; omega⟩, fun h => by simp at h⟩, aA5 hr' _, by simp; omega, fun t => ?_⟩
          simp only [List.cons_append]
          rw [if_neg (by simp; omega), List.take_append_of_le_length (by omega), List.drop_append_of_le_length (by omega)]
    · simp only [if_neg h1] at he ⊢
      by_cases h2 : x = 11
      · subst h2
        simp only [if_true] at he ⊢
        match r, hr, he with
        | [], _, he => cases he
        | [_], _, he => cases he
        | m :: n :: r', hr, he =>
          simp only [List.cons_append] at he ⊢
          by_cases h3 : tJ m n = true
          · simp only [if_pos h3] at he ⊢
            refine ⟨⟨⟨fun y hy => by simp at hy, by simp⟩, fun _ => ?_⟩, fun y hy => hr y (by simp [hy]), by simp; omega, fun t => trivial⟩
            simp only [tJ, Bool.and_eq_true, decide_eq_true_eq] at h3
            exact ⟨h3.1.2, h3.2, h3.1.1.2⟩
          · rw [if_neg h3] at he; cases he
      · simp only [if_neg h2] at he ⊢
        exact ⟨⟨⟨fun y hy => by simp at hy, by simp⟩, fun h => absurd h h2⟩, hr, Nat.le_refl _, fun t => trivial⟩
def eW : Nat → List Int → List aM → LR (List aM) (List aM × Int)
  | 0, _, acc => .brk acc
  | _ + 1, [], acc => .brk acc
  | k + 1, x :: r, acc => if (e8 x r).2.2 = 0 then eW k (e8 x r).2.1 (acc ++ [(e8 x r).1]) else .ret ([], (e8 x r).2.2)
theorem aDY {N : Nat} (hN : 70000 ≤ N) : ∀ (m : Nat) (b : List Int) (acc : List aM), b.length < m → Byt b → b.length ≤ 100000 → acc.length + b.length ≤ 200000 → jO N m b acc = some (eW m b acc)
  | 0, b, acc, hm, _, _, _ => by omega
  | m + 1, [], acc, _, _, _, _ => rfl
  | m + 1, x :: r, acc, hm, hb, hl, ha => by
    simp only [List.length_cons] at hm hl ha
    rw [jO, show decide ((0 : Int) < (((x :: r).length : Nat) : Int)) = true from decide_eq_true (by rw [List.length_cons]; omega), if_pos rfl, aMF hN hb (by omega)]
    simp only [Option.bind_some, eW]
    by_cases he : (e8 x r).2.2 = 0
    · obtain ⟨h1, h2, h3, _⟩ := aDg hb he
      rw [if_pos he, he, show ((0 : Int) != 0) = false from rfl]
      have hlim := lO
      simp only [Bool.false_eq_true, if_false]
      rw [uT (by simp; omega)]
      simp only [Option.bind_some]
      exact aDY hN m _ _ (by omega) h2 (by omega) (by simp; omega)
    · rw [if_neg he, show ((e8 x r).2.2 != 0) = true by simpa using he]
      rfl
theorem aAs : ∀ (k k' : Nat) (b : List Int) (acc : List aM), Byt b → b.length < k → b.length < k' → eW k b acc = eW k' b acc
  | 0, _, b, _, _, hk, _ => by omega
  | k + 1, 0, b, _, _, _, hk => by omega
  | k + 1, k' + 1, [], acc, _, _, _ => rfl
  | k + 1, k' + 1, x :: r, acc, hb, h1, h2 => by
    simp only [List.length_cons] at h1 h2
    simp only [eW]
    by_cases he : (e8 x r).2.2 = 0
    · obtain ⟨_, h4, h3, _⟩ := aDg hb he
      rw [if_pos he, if_pos he]
      exact aAs k k' _ _ h4 (by omega) (by omega)
    · rw [if_neg he, if_neg he]
theorem aBE : ∀ (k : Nat) (b : List Int) (acc l : List aM), Byt b → b.length < k → (∀ o ∈ acc, VOp o) → eW k b acc = .brk l → (∀ o ∈ l, VOp o) ∧ l.length ≤ acc.length + b.length ∧ ∀ (t : List Int) (k' : Nat), Byt t → b.length + t.length < k' → eW k' (b ++ t) acc = eW (t.length + 1) t l
  | 0, b, _, _, _, hk, _, _ => by omega
  | k + 1, [], acc, l, _, _, hv, h => by
    injection h with h
    subst h
    refine ⟨hv, by simp, fun t k' ht hk => ?_⟩
    rw [List.nil_append]
    exact aAs _ _ _ _ ht (by simpa using hk) (by omega)
  | k + 1, x :: r, acc, l, hb, hk, hv, h => by
    simp only [List.length_cons] at hk
    simp only [eW] at h
    by_cases he : (e8 x r).2.2 = 0
    · obtain ⟨h1, h4, h3, h5⟩ := aDg hb he
      rw [if_pos he] at h
      obtain ⟨g1, g2, g3⟩ := aBE k _ _ l h4 (by omega) (fun o ho => (List.mem_append.1 ho).elim (hv o) (fun hh => by simp only [List.mem_singleton] at hh; exact hh ▸ h1)) h
      refine ⟨g1, by simp at g2 ⊢; omega, fun t k' ht hk' => ?_⟩
      obtain ⟨k', rfl⟩ : ∃ q, k' = q + 1 := ⟨k' - 1, by omega⟩
      simp only [List.length_cons] at hk'
      rw [List.cons_append, eW, h5 t]
      simp only [if_true]
      exact g3 t k' ht (by omega)
    · rw [if_neg he] at h; cases h
def bT (b : List Int) : List aM × Int := if 520 < b.length then ([], 4) else match eW (b.length + 1) b [] with | .ret v => v | .brk l => (l, 0)
theorem aKq {N : Nat} (hN : 70000 ≤ N) {b : List Int} (hb : Byt b) : r4 N b = some (bT b) := by
  unfold r4 bT
  by_cases h : 520 < b.length
  · rw [show decide ((520 : Int) < ((b.length : Nat) : Int)) = true from decide_eq_true (by omega), if_pos rfl, if_pos h]
  · rw [show decide ((520 : Int) < ((b.length : Nat) : Int)) = false from decide_eq_false (by omega), if_neg h, aDY hN N b [] (by omega) hb (by omega) (by simp; omega), aAs N (b.length + 1) b [] hb (by omega) (by omega)]
    cases eW (b.length + 1) b [] <;> rfl
theorem aEa : ∀ (k : Nat) (b : List Int) (acc : List aM) (v : List aM × Int), eW k b acc = .ret v → v.1 = [] ∧ v.2 ≠ 0
  | 0, _, _, _, h => by cases h
  | k + 1, [], _, _, h => by cases h
  | k + 1, x :: r, acc, v, h => by
    simp only [eW] at h
    by_cases he : (e8 x r).2.2 = 0
    · rw [if_pos he] at h; exact aEa k _ _ v h
    · rw [if_neg he] at h; injection h with h; subst h; exact ⟨rfl, he⟩
theorem z6 {b : List Int} (hb : Byt b) (h : (bT b).2 = 0) : (∀ o ∈ (bT b).1, VOp o) ∧ (bT b).1.length ≤ 520 ∧ b.length ≤ 520 ∧ eW (b.length + 1) b [] = .brk (bT b).1 := by
  unfold bT at h ⊢
  by_cases hl : 520 < b.length
  · rw [if_pos hl] at h; cases h
  · simp only [if_neg hl] at h ⊢
    cases hp : eW (b.length + 1) b [] with
    | ret v => rw [hp] at h; exact absurd h (aEa _ _ _ _ hp).2
    | brk l =>
      obtain ⟨g1, g2, _⟩ := aBE _ b [] l hb (by omega) (by simp) hp
      exact ⟨g1, by simp at g2; show l.length ≤ 520; omega, by omega, rfl⟩
theorem aHV {a b : List Int} (ha : Byt a) (hb : Byt b) (h1 : (bT a).2 = 0) (h2 : (bT b).2 = 0) (hl : a.length + b.length ≤ 520) : bT (a ++ b) = ((bT a).1 ++ (bT b).1, 0) := by
  obtain ⟨_, _, _, p1⟩ := z6 ha h1
  obtain ⟨_, _, _, p2⟩ := z6 hb h2
  obtain ⟨_, _, g⟩ := aBE _ a [] _ ha (by omega) (by simp) p1
  have e1 := g b ((a ++ b).length + 1) hb (by rw [List.length_append]; omega)
  have acc : ∀ (k : Nat) (b : List Int) (acc l : List aM), eW k b [] = .brk l → eW k b acc = .brk (acc ++ l) := by
    intro k
    have gen : ∀ (k : Nat) (b : List Int) (acc acc' l : List aM), eW k b acc = .brk l → ∃ l', l = acc ++ l' ∧ eW k b acc' = .brk (acc' ++ l') := by
      intro k
      induction k with
      | zero => intro b acc acc' l h; injection h with h; exact ⟨[], by simp [h], by simp [eW]⟩
      | succ k ih =>
        intro b acc acc' l h
        match b with
        | [] => injection h with h; exact ⟨[], by simp [h], by simp [eW]⟩
        | x :: r =>
          simp only [eW] at h ⊢
          by_cases he : (e8 x r).2.2 = 0
          · rw [if_pos he] at h ⊢
            obtain ⟨l', e1, e2⟩ := ih _ _ (acc' ++ [(e8 x r).1]) _ h
            exact ⟨(e8 x r).1 :: l', by rw [e1]; simp, by rw [e2]; simp⟩
          · rw [if_neg he] at h; cases h
    intro b acc l h
    obtain ⟨l', e1, e2⟩ := gen k b [] acc l h
    rw [List.nil_append] at e1
    rw [e1]; exact e2
  rw [acc _ _ (bT a).1 _ p2] at e1
  unfold bT at e1 ⊢
  rw [if_neg (show ¬ 520 < (a ++ b).length by simp; omega), e1]
end Go.Proofs.YtnoklhehodlkaaaGreatDoor
set_option linter.unusedSimpArgs false
set_option linter.unusedVariables false
set_option linter.unusedSectionVars false
namespace Go.Proofs.YtnoklhehodlkaaaGreatDoor
open Go Go.Vm
def sP (v : Bool) : List Int := if v then [1] else []
theorem aDc (v : Bool) : Byt (sP v) ∧ (sP v).length ≤ 520 := by
  cases v
  · exact ⟨fun x hx => by simp [sP] at hx, by decide⟩
  · exact ⟨fun x hx => by simp [sP] at hx; omega, by decide⟩
theorem aFf (N : Nat) : ∀ (m k n : Nat) (acc : List Int), n < 256 ^ k → k < m → k ≤ 10 → acc.length + k ≤ 1000 → Byt acc → n < 4294967296 → ∃ r, bL N m (n : Int) acc = some r ∧ Byt r ∧ r.length ≤ acc.length + k
  | 0, k, n, acc, _, hm, _, _, _, _ => by omega
  | m + 1, k, n, acc, hn, hm, hk, ha, hb, h32 => by
    rw [bL]
    by_cases h : 0 < n
    · match k, hn with
      | 0, hn => simp at hn; omega
      | k + 1, hn =>
        rw [show decide ((0 : Int) < (n : Int)) = true from decide_eq_true (by omega), if_pos rfl, rL (by simp; omega)]
        simp only [Option.bind_some]
        rw [show shr .u32 (n : Int) 8 = some ((n / 256 : Nat) : Int) from sH n 8 h32, Option.bind_some]
        rw [Nat.pow_succ] at hn
        obtain ⟨r, h1, h2, h3⟩ := aFf N m k (n / 256) (acc ++ [IntKind.u8.wrap (n : Int)]) ((Nat.div_lt_iff_lt_mul (by omega)).2 hn) (by omega) (by omega) (by simp; omega) (hb.append (fun x hx => by simp only [List.mem_singleton] at hx; exact hx ▸ aDH _)) (by omega)
        exact ⟨r, h1, h2, by simp at h3; omega⟩
    · rw [show decide ((0 : Int) < (n : Int)) = false from decide_eq_false (by omega)]
      exact ⟨acc, rfl, hb, by omega⟩
def aCx (N : Nat) (n : Int) : List Int := (dA N n).getD []
section
variable {N : Nat} (hN : 70000 ≤ N)
include hN
theorem aHB {n : Nat} (h : n < 4294967296) : dA N (n : Int) = some (aCx N n) ∧ Byt (aCx N n) ∧ (aCx N n).length ≤ 520 := by
  obtain ⟨r, h1, h2, h3⟩ := aFf N N 4 n [] (by simpa using h) (by omega) (by omega) (by simp) (fun x hx => by simp at hx) h
  have : dA N (n : Int) = some r := by simp only [dA, h1, Option.bind_some, sX]
  rw [show aCx N n = r by simp [aCx, this]]
  exact ⟨this, h2, by simp at h3; omega⟩
theorem aEh (v : Bool) : lU N v = some (sP v) := by
  obtain ⟨m, hm⟩ := rA (fun q => bL N q 1 []) hN
  obtain ⟨m', hm'⟩ := rA (fun q => bL N q 0 []) hN
  cases v with
  | false =>
    simp only [lU, Bool.false_eq_true, if_false, dA, hm']
    rfl
  | true =>
    simp only [lU, if_true, dA, hm]
    rw [bL, show decide ((0 : Int) < 1) = true from rfl, if_pos rfl, rL (by simp)]
    simp only [Option.bind_some]
    rw [show shr .u32 1 8 = some 0 from by decide +kernel, Option.bind_some, bL]
    rfl
def aAm (N : Nat) (b : List Int) : Int × Int := (fA N b).getD (0, 0)
theorem aNq (b : List Int) : fA N b = some (aAm N b) := by
  have hloop : b.length ≤ 4 → ∀ (m j : Nat) (v : Int), b.length - j < m → j ≤ b.length → ∃ r, bJ N b m v (j : Int) = some r := by
    intro hl m
    induction m with
    | zero => intro j v hm _; omega
    | succ m ih =>
      intro j v hm hj
      rw [bJ]
      by_cases h : j < b.length
      · obtain ⟨y, hy⟩ : ∃ y, shl .u32 (IntKind.u32.wrap b[j]) (IntKind.i64.wrap (8 * (j : Int))) = some y := by
          rw [cC (by omega) (by omega)]; unfold shl; rw [if_neg (by omega)]; exact ⟨_, rfl⟩
        rw [dT h, if_pos rfl, eY b h]
        simp only [Option.bind_some, hy, i1 (show j ≤ 100000 by omega)]
        exact ih (j + 1) _ (by omega) (by omega)
      · rw [dF h]; exact ⟨v, rfl⟩
  have hJ : b.length ≤ 4 → ∀ t, ∃ r, dP N b t = some r := by
    intro hl t
    cases t with
    | true => exact ⟨_, rfl⟩
    | false =>
      obtain ⟨r, hr⟩ := hloop hl N 0 0 (by omega) (by omega)
      rw [show ((0 : Nat) : Int) = 0 from rfl] at hr
      simp only [dP, Bool.false_eq_true, if_false, hr, Option.bind_some, kM]
      exact ⟨_, rfl⟩
  have : ∃ r, fA N b = some r := by
    unfold fA
    by_cases h : 4 < b.length
    · rw [show decide ((4 : Int) < ((b.length : Nat) : Int)) = true from decide_eq_true (by omega)]
      exact ⟨_, rfl⟩
    · rw [show decide ((4 : Int) < ((b.length : Nat) : Int)) = false from decide_eq_false (by omega)]
      simp only [Bool.false_eq_true, if_false]
      by_cases h2 : 0 < b.length
      · rw [show decide ((0 : Int) < ((b.length : Nat) : Int)) = true from decide_eq_true (by omega), if_pos rfl, cC (by omega) (by omega), show ((b.length : Nat) : Int) - 1 = ((b.length - 1 : Nat) : Int) by omega, eY b (by omega)]
        exact hJ (by omega) _
      · rw [show decide ((0 : Int) < ((b.length : Nat) : Int)) = false from decide_eq_false (by omega)]
        show ∃ r, dP N b false = some r
        exact hJ (by omega) _
  obtain ⟨r, hr⟩ := this
  simp [aAm, hr]
def qD (N : Nat) (g9 : List Int) (now : Int) : Int := if (aAm N g9).2 != 0 then (aAm N g9).2 else if decide (now < IntKind.i64.wrap (aAm N g9).1) then 85 else 0
theorem aJE (g9 : List Int) (now : Int) : nK N g9 now = some (qD N g9 now) := by
  simp only [nK, aNq hN, Option.bind_some, qD]
  split
  · rfl
  · split <;> rfl
def nO (b : List Int) : Bool := b.any (· != 0)
theorem aBf {b : List Int} (hl : b.length ≤ 60000) : kV N b = some (nO b) := by
  have := aCZ (f := hH N b) (xs := b) (p := fun x => !(x != 0)) (r := true) (fun m j hj => by
      rw [hH, dT hj, if_pos rfl, eY b hj]
      simp only [Option.bind_some, i1 (show j ≤ 100000 by omega)]
      cases b[j] != 0 <;> rfl) (fun m j hj => by rw [hH, dF (by omega)]; rfl) N 0 (by omega) (by omega)
  rw [show ((0 : Nat) : Int) = 0 from rfl, List.drop_zero] at this
  unfold kV nO
  rw [this, List.any_eq_not_all_not]
  cases b.all fun x => !(x != 0) <;> rfl
end
structure WS (st : List (List Int)) : Prop where
  len : st.length ≤ 64
  it : ∀ x ∈ st, Byt x ∧ x.length ≤ 520
theorem WS.push {st : List (List Int)} (h : WS st) (hl : st.length < 64) {x : List Int} (hx : Byt x ∧ x.length ≤ 520) : WS (st ++ [x]) :=
  ⟨by simp; omega, fun y hy => (List.mem_append.1 hy).elim (h.it y) (fun e => by simp only [List.mem_singleton] at e; exact e ▸ hx)⟩
theorem WS.take {st : List (List Int)} (h : WS st) (k : Nat) : WS (st.take k) := ⟨by have := h.len; simp; omega, fun y hy => h.it y (List.mem_of_mem_take hy)⟩
theorem WS.set {st : List (List Int)} (h : WS st) (i : Nat) {x : List Int} (hx : Byt x ∧ x.length ≤ 520) : WS (st.set i x) := ⟨by rw [List.length_set]; exact h.len, fun y hy => (List.mem_or_eq_of_mem_set hy).elim (h.it y) (fun e => e ▸ hx)⟩
def jR (st : List (List Int)) (k : Nat) : List Int := st.getD (st.length - k) []
theorem tD {st : List (List Int)} (h : WS st) {k : Nat} (h1 : 1 ≤ k) (hk : k ≤ st.length) : Byt (jR st k) ∧ (jR st k).length ≤ 520 ∧ cU st (IntKind.i64.wrap (((st.length : Nat) : Int) - (k : Int))) = some (jR st k) := by
  have hl := h.len
  have hlt : st.length - k < st.length := by omega
  have e : jR st k = st[st.length - k] := by simp [jR, hlt]
  rw [cC (by omega) (by omega), show ((st.length : Nat) : Int) - (k : Int) = ((st.length - k : Nat) : Int) by omega, eY st hlt, e]
  exact ⟨(h.it _ (List.getElem_mem hlt)).1, (h.it _ (List.getElem_mem hlt)).2, rfl⟩
theorem aEv {N : Nat} {m : List Int} {h a : Int} {st : List (List Int)} {br : List aE} {c : Int} (hs : st.length ≤ 64) {k : Nat} (hk : k ≤ st.length) : dB N m h a st br c (k : Int) = some (m, h, a, st.take (st.length - k), br, c) := by
  unfold dB
  rw [cC (by omega) (by omega), show ((st.length : Nat) : Int) - (k : Int) = ((st.length - k : Nat) : Int) by omega]
  have : sub st 0 ((st.length - k : Nat) : Int) = some (st.take (st.length - k)) := by
    unfold sub; rw [if_pos ⟨by omega, by omega, by omega⟩]; simp
  rw [this]; rfl
theorem aBi {l m : List (List Int)} (h : l.length + m.length ≤ 1000000) : app 24 l m = some (l ++ m) := by
  have := lO
  exact uT (by omega)
theorem aBk {N : Nat} {m : List Int} {h a : Int} {st : List (List Int)} {br : List aE} {c : Int} (hs : st.length ≤ 64) {k : Nat} (hk : k ≤ st.length) (x : List Int) : cK N m h a st br c (k : Int) x = some (m, h, a, st.take (st.length - k) ++ [x], br, c) := by
  unfold cK
  rw [aEv hs hk, Option.bind_some, aBi (by simp; omega)]; rfl
def w8 (st : List (List Int)) (x : List Int) : Int × List (List Int) := if 64 ≤ st.length then (4, st) else (0, st ++ [x])
theorem aEF {N : Nat} {m : List Int} {h a : Int} {st : List (List Int)} {br : List aE} {c : Int} (x : List Int) : fP N m h a st br c x = some ((w8 st x).1, m, h, a, (w8 st x).2, br, c) := by
  unfold fP w8
  by_cases hl : 64 ≤ st.length
  · rw [show decide ((64 : Int) ≤ ((st.length : Nat) : Int)) = true from decide_eq_true (by omega), if_pos rfl, if_pos hl]
  · rw [show decide ((64 : Int) ≤ ((st.length : Nat) : Int)) = false from decide_eq_false (by omega), if_neg hl, aBi (by simp; omega)]; rfl
def pO (N : Nat) (m key sig : List Int) : Int := (cF N m 0 0 [] [] 0 key sig).getD 0
theorem aNs {N : Nat} (hN : 70000 ≤ N) {m : List Int} (hm : m.length = 32) (hb : Byt m) (h a : Int) (st : List (List Int)) (br : List aE) (c : Int) (key sig : List Int) : cF N m h a st br c key sig = some (pO N m key sig) := by
  obtain ⟨e, he⟩ := aJr hN hm hb 0 0 [] [] 0 key sig
  have h1 : cF N m h a st br c key sig = cF N m 0 0 [] [] 0 key sig := rfl
  rw [h1, show pO N m key sig = e by simp [pO, he], he]
def yB (N : Nat) (m : List Int) : List (List Int) → List (List Int) → Int → Int × Int
  | k :: ks, s :: ss, c => if pO N m k s != 0 then (pO N m k s, 0) else yB N m ks ss (if decide (0 < (s.length : Int)) then c + 1 else c)
  | _, _, c => (0, c)
def sT (N : Nat) (m : List Int) (st : List (List Int)) (c8 : Int) (n : Nat) : Int × List (List Int) :=
  if (yB N m (st.drop (st.length - n)) ((st.take (st.length - n)).drop (st.length - 2 * n)) 0).1 = 0 then (0, st.take (st.length - 2 * n) ++ [sP (decide (c8 ≤ (yB N m (st.drop (st.length - n)) ((st.take (st.length - n)).drop (st.length - 2 * n)) 0).2))])
  else ((yB N m (st.drop (st.length - n)) ((st.take (st.length - n)).drop (st.length - 2 * n)) 0).1, st)
section
variable {N : Nat} (hN : 70000 ≤ N) {m : List Int} (hm : m.length = 32) (hb : Byt m)
include hN hm hb
theorem aDh (h a : Int) (st : List (List Int)) (br : List aE) (c c8 : Int) (n : Nat) (hn : n ≤ 100) (ks ss : List (List Int)) (hk : ks.length = n) (hs : ss.length = n) : ∀ (f j : Nat) (cnt : Int), n - j < f → j ≤ n → 0 ≤ cnt → cnt ≤ j →
    cM N m h a st br c c8 (n : Int) ks ss f cnt (j : Int) = some (if (yB N m (ks.drop j) (ss.drop j) cnt).1 = 0 then .brk (yB N m (ks.drop j) (ss.drop j) cnt).2 else .ret ((yB N m (ks.drop j) (ss.drop j) cnt).1, m, h, a, st, br, c))
  | 0, j, cnt, hf, _, _, _ => by omega
  | f + 1, j, cnt, hf, hj, h0, h1 => by
    rw [cM]
    by_cases hjn : j < n
    · rw [dT hjn, if_pos rfl, eY ks (by omega), eY ss (by omega)]
      simp only [Option.bind_some, aNs hN hm hb]
      rw [List.drop_eq_getElem_cons (show j < ks.length by omega), List.drop_eq_getElem_cons (show j < ss.length by omega), yB]
      cases hv : pO N m ks[j] ss[j] != 0 with
      | true =>
        have hv' : pO N m ks[j] ss[j] ≠ 0 := by simpa using hv
        simp only [if_true, if_neg hv']
      | false =>
        simp only [Bool.false_eq_true, if_false, f8, i1 (show j ≤ 100000 by omega)]
        cases hl : decide (0 < ((ss[j].length : Nat) : Int)) with
        | true =>
          simp only [if_true]
          rw [cC (a := cnt + 1) (by omega) (by omega)]
          exact aDh h a st br c c8 n hn ks ss hk hs f (j + 1) _ (by omega) (by omega) (by omega) (by omega)
        | false =>
          simp only [Bool.false_eq_true, if_false]
          exact aDh h a st br c c8 n hn ks ss hk hs f (j + 1) _ (by omega) (by omega) (by omega) (by omega)
    · rw [dF hjn, List.drop_eq_nil_of_le (by omega)]
      rfl
theorem aFu {h a : Int} {st : List (List Int)} (hs : WS st) {br : List aE} {c c8 : Int} {n : Nat} (h1 : 1 ≤ n) (hn : 2 * n ≤ st.length) : fX N m h a st br c c8 (n : Int) = some ((sT N m st c8 n).1, m, h, a, (sT N m st c8 n).2, br, c) := by
  have hl := hs.len
  have e1 : qV st (IntKind.i64.wrap (((st.length : Nat) : Int) - (n : Int))) ((st.length : Nat) : Int) = some (st.drop (st.length - n)) := by
    rw [cC (by omega) (by omega), show ((st.length : Nat) : Int) - (n : Int) = ((st.length - n : Nat) : Int) by omega]
    unfold qV
    rw [if_pos ⟨by omega, by omega, by omega⟩, Int.toNat_natCast, Int.toNat_natCast, List.take_of_length_le (Nat.le_refl _)]
  have e2 : qV st (IntKind.i64.wrap (((st.length : Nat) : Int) - (IntKind.i64.wrap (2 * (n : Int))))) (IntKind.i64.wrap (((st.length : Nat) : Int) - (n : Int))) = some ((st.take (st.length - n)).drop (st.length - 2 * n)) := by
    rw [cC (a := 2 * (n : Int)) (by omega) (by omega), cC (a := ((st.length : Nat) : Int) - (n : Int)) (by omega) (by omega), cC (by omega) (by omega), show ((st.length : Nat) : Int) - (n : Int) = ((st.length - n : Nat) : Int) by omega, show ((st.length : Nat) : Int) - 2 * (n : Int) = ((st.length - 2 * n : Nat) : Int) by omega]
    unfold qV
    rw [if_pos ⟨by omega, by omega, by omega⟩, Int.toNat_natCast, Int.toNat_natCast]
  have lp := aDh hN hm hb h a st br c c8 n (by omega) (st.drop (st.length - n)) ((st.take (st.length - n)).drop (st.length - 2 * n)) (by simp; omega) (by simp; omega) N 0 0 (by omega) (by omega) (by omega) (by omega)
  rw [List.drop_zero, List.drop_zero, show ((0 : Nat) : Int) = 0 from rfl] at lp
  simp only [fX, e1, e2, lp, Option.bind_some]
  unfold sT
  by_cases hz : (yB N m (st.drop (st.length - n)) ((st.take (st.length - n)).drop (st.length - 2 * n)) 0).1 = 0
  · rw [if_pos hz, if_pos hz]
    simp only [jJ, aEh hN, Option.bind_some]
    rw [cC (a := 2 * (n : Int)) (by omega) (by omega), show 2 * (n : Int) = ((2 * n : Nat) : Int) by omega, aBk hl hn]
    rfl
  · rw [if_neg hz, if_neg hz]
end
end Go.Proofs.YtnoklhehodlkaaaGreatDoor
set_option linter.unusedSimpArgs false
set_option linter.unusedVariables false
set_option linter.unusedSectionVars false
namespace Go.Proofs.YtnoklhehodlkaaaGreatDoor
open Go Go.Vm
def eqE (a b : List Int) : Bool := (yJ a).toList == (yJ b).toList
def qE (N : Nat) (m : List Int) (h a : Int) (o : aM) (st : List (List Int)) : Int × List (List Int) :=
  if o.Code = 1 then w8 st o.Data
  else if o.Code = 2 then w8 st (jR st 1)
  else if o.Code = 3 then (0, st.take (st.length - 1))
  else if o.Code = 4 then (0, (st.set (st.length - 1) (jR st 2)).set (st.length - 2) (jR st 1))
  else if o.Code = 5 then (0, st.take (st.length - 2) ++ [sP (eqE (jR st 1) (jR st 2))])
  else if o.Code = 6 then (0, st.take (st.length - 1) ++ [sP (!nO (jR st 1))])
  else if o.Code = 7 then (if nO (jR st 1) then (0, st.take (st.length - 1)) else (84, st))
  else if o.Code = 8 then (0, st.take (st.length - 1) ++ [sha256 N (jR st 1)])
  else if o.Code = 9 then w8 st (aCx N ((jR st 1).length : Nat))
  else if o.Code = 10 then sT N m st 1 1
  else if o.Code = 11 then sT N m st o.M o.N.toNat
  else if o.Code = 12 then (qD N (jR st 1) h, st)
  else if o.Code = 13 then (qD N (jR st 1) a, st)
  else if o.Code = 17 then (84, st)
  else (0, st)
def kD (o : aM) : Int :=
  if o.Code = 1 ∨ o.Code = 15 ∨ o.Code = 16 ∨ o.Code = 17 then 0 else if o.Code = 4 ∨ o.Code = 5 ∨ o.Code = 10 then 2 else if o.Code = 11 then 2 * o.N else 1
def iW (o : aM) : Int := if o.Code = 8 then 6 else if o.Code = 10 then 21 else if o.Code = 11 then 1 + 20 * o.N else 1
theorem kB {x y : Int} (h : x ≠ y) : (x == y) = false := by simpa using h
theorem aKW (N : Nat) {o : aM} (ho : VOp o) : rP N o.Code o.Data o.M o.N = some (iW o) := by
  unfold rP iW
  by_cases h8 : o.Code = 8
  · rw [h8]; rfl
  · rw [kB h8, if_neg h8]
    by_cases h10 : o.Code = 10
    · rw [h10]; rfl
    · rw [kB h10, if_neg h10]
      by_cases h11 : o.Code = 11
      · have := ho.multi h11
        rw [if_pos h11, h11, cC (a := 20 * o.N) (by omega) (by omega), cC (by omega) (by omega)]; rfl
      · rw [kB h11, if_neg h11]; rfl
theorem aJz {o : aM} (ho : VOp o) : 1 ≤ iW o ∧ iW o ≤ 301 := by
  unfold iW
  by_cases h11 : o.Code = 11
  · have := ho.multi h11
    rw [if_neg (by omega), if_neg (by omega), if_pos h11]; omega
  · rw [if_neg h11]
    split
    · omega
    · split <;> omega
theorem aKU (N : Nat) {o : aM} (ho : VOp o) : rR N o.Code o.Data o.M o.N = some (kD o) := by
  unfold rR kD jZ lH
  by_cases h11 : o.Code = 11
  · have := ho.multi h11
    simp only [h11]
    rw [cC (a := 2 * o.N) (by omega) (by omega)]
    simp
  · by_cases h1 : o.Code = 1
    · simp [h1]
    · by_cases h15 : o.Code = 15
      · simp [h15]
      · by_cases h16 : o.Code = 16
        · simp [h16]
        · by_cases h17 : o.Code = 17
          · simp [h17]
          · by_cases h4 : o.Code = 4
            · simp [h4]
            · by_cases h5 : o.Code = 5
              · simp [h5]
              · by_cases h10 : o.Code = 10
                · simp [h10]
                · simp [h1, h15, h16, h17, h4, h5, h10, h11]
section
variable {N : Nat} (hN : 70000 ≤ N) {m : List Int} (hm : m.length = 32) (hb : Byt m)
include hN hm hb
theorem aC0 {st : List (List Int)} (hs : WS st) {x : List Int} (hx : Byt x ∧ x.length ≤ 520) : WS (w8 st x).2 := by
  unfold w8
  by_cases h : 64 ≤ st.length
  · rw [if_pos h]; exact hs
  · rw [if_neg h]; exact hs.push (by omega) hx
theorem aD2 {st : List (List Int)} (hs : WS st) (c8 : Int) {n : Nat} (h1 : 1 ≤ n) (hn : 2 * n ≤ st.length) : WS (sT N m st c8 n).2 := by
  unfold sT
  split
  · have := hs.len
    exact (hs.take _).push (by simp; omega) (aDc _)
  · exact hs
theorem aKh {h a : Int} {o : aM} (ho : VOp o) {st : List (List Int)} (hs : WS st) (hn : kD o ≤ (st.length : Int)) : WS (qE N m h a o st).2 := by
  have hl := hs.len
  have rep : ∀ (k : Nat) (x : List Int), 1 ≤ k → k ≤ st.length → (Byt x ∧ x.length ≤ 520) → WS (st.take (st.length - k) ++ [x]) := fun k x h1 hk hx => (hs.take _).push (by simp; omega) hx
  unfold qE
  unfold kD at hn
  by_cases h1 : o.Code = 1
  · rw [if_pos h1]
    exact aC0 hN hm hb hs ⟨ho.data.1, by have := ho.data.2; omega⟩
  rw [if_neg h1]
  by_cases h2 : o.Code = 2
  · simp [h2] at hn
    have := tD hs (k := 1) (by omega) (by omega)
    rw [if_pos h2]
    exact aC0 hN hm hb hs ⟨this.1, this.2.1⟩
  rw [if_neg h2]
  by_cases h3 : o.Code = 3
  · rw [if_pos h3]; exact hs.take _
  rw [if_neg h3]
  by_cases h4 : o.Code = 4
  · simp [h4] at hn
    have q1 := tD hs (k := 1) (by omega) (by omega)
    have q2 := tD hs (k := 2) (by omega) (by omega)
    rw [if_pos h4]
    exact (hs.set _ ⟨q2.1, q2.2.1⟩).set _ ⟨q1.1, q1.2.1⟩
  rw [if_neg h4]
  by_cases h5 : o.Code = 5
  · simp [h5] at hn
    rw [if_pos h5]
    exact rep 2 _ (by omega) (by omega) (aDc _)
  rw [if_neg h5]
  by_cases h6 : o.Code = 6
  · simp [h6] at hn
    rw [if_pos h6]
    exact rep 1 _ (by omega) (by omega) (aDc _)
  rw [if_neg h6]
  by_cases h7 : o.Code = 7
  · rw [if_pos h7]
    cases nO (jR st 1)
    · exact hs
    · exact hs.take _
  rw [if_neg h7]
  by_cases h8 : o.Code = 8
  · simp [h8] at hn
    rw [if_pos h8]
    exact rep 1 _ (by omega) (by omega) ⟨sN _ _, by rw [pT]; omega⟩
  rw [if_neg h8]
  by_cases h9 : o.Code = 9
  · simp [h9] at hn
    have := tD hs (k := 1) (by omega) (by omega)
    rw [if_pos h9]
    exact aC0 hN hm hb hs (aHB hN (n := (jR st 1).length) (by omega)).2
  rw [if_neg h9]
  by_cases h10 : o.Code = 10
  · simp [h10] at hn
    rw [if_pos h10]
    exact aD2 hN hm hb hs _ (by omega) (by omega)
  rw [if_neg h10]
  by_cases h11 : o.Code = 11
  · have := ho.multi h11
    simp [h11] at hn
    rw [if_pos h11]
    exact aD2 hN hm hb hs _ (by omega) (by omega)
  rw [if_neg h11]
  by_cases h12 : o.Code = 12
  · rw [if_pos h12]; exact hs
  rw [if_neg h12]
  by_cases h13 : o.Code = 13
  · rw [if_pos h13]; exact hs
  rw [if_neg h13]
  by_cases h17 : o.Code = 17
  · rw [if_pos h17]; exact hs
  rw [if_neg h17]; exact hs
theorem aJ8 {h a : Int} {o : aM} (ho : VOp o) {st : List (List Int)} (hs : WS st) (hn : kD o ≤ (st.length : Int)) (br : List aE) (c : Int) :
    jW N m h a st br c o.Code o.Data o.M o.N = some ((qE N m h a o st).1, m, h, a, (qE N m h a o st).2, br, c) := by
  have hl := hs.len
  have top : 1 ≤ st.length → bY N m h a st br c = some (jR st 1) := fun h1 => by
    unfold bY
    rw [show ((st.length : Nat) : Int) - 1 = ((st.length : Nat) : Int) - ((1 : Nat) : Int) from rfl, (tD hs (k := 1) (by omega) h1).2.2]; rfl
  have len1 : 1 ≤ st.length → (jR st 1).length ≤ 520 ∧ Byt (jR st 1) := fun h1 => ⟨(tD hs (k := 1) (by omega) h1).2.1, (tD hs (k := 1) (by omega) h1).1⟩
  have rep1 : ∀ x, 1 ≤ st.length → cK N m h a st br c 1 x = some (m, h, a, st.take (st.length - 1) ++ [x], br, c) := fun x h1 => aBk (k := 1) hl h1 x
  have rep2 : ∀ x, 2 ≤ st.length → cK N m h a st br c 2 x = some (m, h, a, st.take (st.length - 2) ++ [x], br, c) := fun x h1 => aBk (k := 2) hl h1 x
  have drp : 1 ≤ st.length → dB N m h a st br c 1 = some (m, h, a, st.take (st.length - 1), br, c) := fun h1 => aEv (k := 1) hl h1
  have i2 : 2 ≤ st.length → cU st (IntKind.i64.wrap (((st.length : Nat) : Int) - 2)) = some (jR st 2) := fun h2 => (tD hs (k := 2) (by omega) h2).2.2
  have i1' : 1 ≤ st.length → cU st (IntKind.i64.wrap (((st.length : Nat) : Int) - 1)) = some (jR st 1) := fun h2 => (tD hs (k := 1) (by omega) h2).2.2
  unfold qE jW
  unfold kD at hn
  by_cases h1 : o.Code = 1
  · rw [if_pos h1, h1, aEF]; rfl
  rw [if_neg h1, kB h1]
  by_cases h2 : o.Code = 2
  · simp [h2] at hn
    rw [if_pos h2, h2, top (by omega)]
    simp only [Option.bind_some, aEF]; rfl
  rw [if_neg h2, kB h2]
  by_cases h3 : o.Code = 3
  · simp [h3] at hn
    rw [if_pos h3, h3, drp (by omega)]; rfl
  rw [if_neg h3, kB h3]
  by_cases h4 : o.Code = 4
  · simp [h4] at hn
    rw [if_pos h4, h4, i2 (by omega), i1' (by omega)]
    have e1 : IntKind.i64.wrap (((st.length : Nat) : Int) - 1) = ((st.length - 1 : Nat) : Int) := by rw [cC (by omega) (by omega)]; omega
    have e2 : IntKind.i64.wrap (((st.length : Nat) : Int) - 2) = ((st.length - 2 : Nat) : Int) := by rw [cC (by omega) (by omega)]; omega
    simp only [e1, e2, Int.toNat_natCast, Option.bind_some]
    rw [eY _ (show st.length - 2 < (st.set (st.length - 1) (jR st 2)).length by rw [List.length_set]; omega)]
    rfl
  rw [if_neg h4, kB h4]
  by_cases h5 : o.Code = 5
  · simp [h5] at hn
    rw [if_pos h5, h5, top (by omega), i2 (by omega)]
    simp only [Option.bind_some, wZ, aEh hN, rep2 _ (show 2 ≤ st.length by omega)]
    rfl
  rw [if_neg h5, kB h5]
  by_cases h6 : o.Code = 6
  · simp [h6] at hn
    rw [if_pos h6, h6, top (by omega)]
    simp only [Option.bind_some, aBf hN (show (jR st 1).length ≤ 60000 by have := (len1 (by omega)).1; omega), aEh hN, rep1 _ (show 1 ≤ st.length by omega)]
    rfl
  rw [if_neg h6, kB h6]
  by_cases h7 : o.Code = 7
  · simp [h7] at hn
    rw [if_pos h7, h7, top (by omega)]
    simp only [Option.bind_some, aBf hN (show (jR st 1).length ≤ 60000 by have := (len1 (by omega)).1; omega), drp (show 1 ≤ st.length by omega)]
    cases nO (jR st 1) <;> rfl
  rw [if_neg h7, kB h7]
  by_cases h8 : o.Code = 8
  · simp [h8] at hn
    rw [if_pos h8, h8, top (by omega)]
    simp only [Option.bind_some, aGd N hN _ (len1 (by omega)).2 (show (jR st 1).length ≤ 1000000 by have := (len1 (by omega)).1; omega), cZ (pT N (jR st 1)), rep1 _ (show 1 ≤ st.length by omega)]
    rfl
  rw [if_neg h8, kB h8]
  by_cases h9 : o.Code = 9
  · simp [h9] at hn
    have := (len1 (by omega)).1
    rw [if_pos h9, h9, top (by omega)]
    simp only [Option.bind_some, aCk _ (show (jR st 1).length < 4294967296 by omega), (aHB hN (show (jR st 1).length < 4294967296 by omega)).1, aEF]
    rfl
  rw [if_neg h9, kB h9]
  by_cases h10 : o.Code = 10
  · simp [h10] at hn
    have := aFu hN hm hb (h := h) (a := a) hs (br := br) (c := c) (c8 := 1) (n := 1) (by omega) (by omega)
    rw [show ((1 : Nat) : Int) = 1 from rfl] at this
    rw [if_pos h10, h10, this]; rfl
  rw [if_neg h10, kB h10]
  by_cases h11 : o.Code = 11
  · have hM := ho.multi h11
    simp [h11] at hn
    have := aFu hN hm hb (h := h) (a := a) hs (br := br) (c := c) (c8 := o.M) (n := o.N.toNat) (by omega) (by omega)
    rw [show ((o.N.toNat : Nat) : Int) = o.N by omega] at this
    rw [if_pos h11, h11, this]; rfl
  rw [if_neg h11, kB h11]
  by_cases h12 : o.Code = 12
  · simp [h12] at hn
    rw [if_pos h12, h12, top (by omega)]
    simp only [Option.bind_some, aJE hN]; rfl
  rw [if_neg h12, kB h12]
  by_cases h13 : o.Code = 13
  · simp [h13] at hn
    rw [if_pos h13, h13, top (by omega)]
    simp only [Option.bind_some, aJE hN]; rfl
  rw [if_neg h13, kB h13]
  by_cases h17 : o.Code = 17
  · rw [if_pos h17, h17]; rfl
  rw [if_neg h17, kB h17]; rfl
end
end Go.Proofs.YtnoklhehodlkaaaGreatDoor
set_option linter.unusedSimpArgs false
set_option linter.unusedVariables false
set_option linter.unusedSectionVars false
namespace Go.Proofs.YtnoklhehodlkaaaGreatDoor
open Go Go.Vm
structure St where
  st : List (List Int)
  br : List aE
  c : Int
def nB (br : List aE) : aE := br.getD (br.length - 1) ⟨true, true⟩
def j4 (o : aM) (br : List aE) : Bool := if o.Code = 15 ∨ o.Code = 16 then (nB br).outer else (nB br).outer && (nB br).taken
def t5 (N : Nat) (m : List Int) (h a : Int) (o : aM) (k : Bool) (s : St) : Int × St :=
  if o.Code = 14 then (0, ⟨if k then s.st.take (s.st.length - 1) else s.st, s.br ++ [⟨k, k && nO (jR s.st 1)⟩], s.c⟩)
  else if o.Code = 15 then (0, ⟨s.st, s.br.set (s.br.length - 1) ⟨(nB s.br).outer, !(nB s.br).taken⟩, s.c⟩)
  else if o.Code = 16 then (0, ⟨s.st, s.br.take (s.br.length - 1), s.c⟩)
  else if k then ((qE N m h a o s.st).1, ⟨(qE N m h a o s.st).2, s.br, s.c⟩) else (0, s)
def eO (N : Nat) (m : List Int) (h a : Int) (o : aM) (s : St) : Int × St :=
  if j4 o s.br then
    (if 500 < s.c + iW o then (83, s) else if (s.st.length : Int) < kD o then (81, s) else t5 N m h a o true ⟨s.st, s.br, s.c + iW o⟩)
  else t5 N m h a o false s
def cJ (N : Nat) (m : List Int) (h a : Int) : List aM → St → Int × St
  | [], s => (0, s)
  | o :: r, s => if (eO N m h a o s).1 = 0 then cJ N m h a r (eO N m h a o s).2 else eO N m h a o s
def fD : List aM → List Bool → Option (List Bool)
  | [], l => some l
  | o :: r, l =>
    if o.Code = 14 then fD r (l ++ [false])
    else if o.Code = 15 then (if l = [] then none else if l.getD (l.length - 1) true = true then none else fD r (l.set (l.length - 1) true))
    else if o.Code = 16 then (if l = [] then none else fD r (l.take (l.length - 1)))
    else fD r l
theorem pR : ∀ (x y : List aM) (l : List Bool), fD (x ++ y) l = (fD x l).bind (fD y)
  | [], y, l => rfl
  | o :: r, y, l => by
    simp only [List.cons_append, fD]
    split
    · exact pR r y _
    split
    · split
      · rfl
      · split
        · rfl
        · exact pR r y _
    split
    · split
      · rfl
      · exact pR r y _
    · exact pR r y _
theorem aCu {n : Nat} (h1 : 1 ≤ n) (h2 : n ≤ 100000) : IntKind.i64.wrap ((n : Int) - 1) = ((n - 1 : Nat) : Int) := by rw [cC (by omega) (by omega)]; omega
theorem wA {α : Type} {l : List α} : l = [] ↔ l.length = 0 := by cases l <;> simp
def aN3 : Option (List Bool) → LR (List Bool) Bool
  | none => .ret false
  | some l => .brk l
theorem aEU (N : Nat) (l : List aM) (hl : l.length ≤ 1000) : ∀ (f j : Nat) (op : List Bool), l.length - j < f → j ≤ l.length → op.length ≤ j → cW N l f (j : Int) op = some (aN3 (fD (l.drop j) op))
  | 0, j, op, hf, _, _ => by omega
  | f + 1, j, op, hf, hj, ho => by
    rw [cW]
    by_cases h : j < l.length
    · rw [dT h, if_pos rfl, eY l h, List.drop_eq_getElem_cons h]
      simp only [Option.bind_some, fD, iR, mW, i1 (show j ≤ 100000 by omega)]
      have ih := fun op' (ho' : op'.length ≤ j + 1) => aEU N l hl f (j + 1) op' (by omega) (by omega) ho'
      by_cases h14 : l[j].Code = 14
      · have := lO
        rw [if_pos h14, h14, uT (by simp; omega)]
        exact ih _ (by simp; omega)
      rw [if_neg h14, kB h14]
      by_cases h15 : l[j].Code = 15
      · rw [if_pos h15, h15]
        by_cases h0 : op = []
        · rw [if_pos h0, h0]; rfl
        · have h0' : 1 ≤ op.length := by have := mt wA.2 h0; omega
          rw [if_neg h0, aCu h0' (by omega), show decide ((((op.length - 1 : Nat)) : Int) < 0) = false from decide_eq_false (by omega), eY op (show op.length - 1 < op.length by omega), show op.getD (op.length - 1) true = op[op.length - 1] by simp [show op.length - 1 < op.length by omega]]
          cases hh : op[op.length - 1]
          · simp only [Bool.false_eq_true, if_false, Option.bind_some, Int.toNat_natCast, show ((15 : Int) == 14) = false from rfl, show ((15 : Int) == 15) = true from rfl, if_true]
            exact ih _ (by simp; omega)
          · rfl
      rw [if_neg h15, kB h15]
      by_cases h16 : l[j].Code = 16
      · rw [if_pos h16, h16]
        by_cases h0 : op = []
        · rw [if_pos h0, h0]; rfl
        · have h0' : 1 ≤ op.length := by have := mt wA.2 h0; omega
          have e : sub op 0 ((op.length - 1 : Nat) : Int) = some (op.take (op.length - 1)) := by
            unfold sub; rw [if_pos ⟨by omega, by omega, by omega⟩]; simp
          rw [if_neg h0, aCu h0' (by omega), show decide ((((op.length - 1 : Nat)) : Int) < 0) = false from decide_eq_false (by omega), e]
          exact ih _ (by simp; omega)
      rw [if_neg h16, kB h16]
      exact ih _ (by omega)
    · rw [dF h, List.drop_eq_nil_of_le (by omega)]; rfl
def wQ (l : List aM) : Bool := match fD l [] with | none => false | some q => (q.length : Int) == 0
theorem aJf {N : Nat} (hN : 70000 ≤ N) {l : List aM} (hl : l.length ≤ 1000) : qJ N l = some (wQ l) := by
  have := aEU N l hl N 0 [] (by omega) (by omega) (by simp)
  rw [List.drop_zero, show ((0 : Nat) : Int) = 0 from rfl] at this
  unfold qJ wQ
  rw [this]
  cases fD l [] <;> rfl
section
variable {N : Nat} (hN : 70000 ≤ N) {m : List Int} (hm : m.length = 32) (hb : Byt m)
include hN hm hb
theorem aMH {h a : Int} {o : aM} (ho : VOp o) {s : St} (hs : WS s.st) (hbr : s.br.length ≤ 1000) (hc : 0 ≤ s.c ∧ s.c ≤ 500) (h15 : o.Code = 15 ∨ o.Code = 16 → s.br ≠ []) :
    ∃ s', fR N m h a s.st s.br s.c o.Code o.Data o.M o.N = some ((eO N m h a o s).1, m, h, a, s'.st, s'.br, s'.c) ∧ ((eO N m h a o s).1 = 0 → s' = (eO N m h a o s).2 ∧ WS s'.st ∧ s.c ≤ s'.c ∧ s'.c ≤ 500 ∧ ((o.Code = 14 → s'.br.length = s.br.length + 1) ∧ (o.Code = 16 → s'.br.length = s.br.length - 1) ∧ (o.Code ≠ 14 → o.Code ≠ 16 → s'.br.length = s.br.length))) := by
  have hp := aJz ho
  have hbody : ∀ (k : Bool) (c : Int), s.c ≤ c → c ≤ 500 → (k = true → kD o ≤ (s.st.length : Int)) → ∃ s', fG N m h a s.st s.br o.Code o.Data o.M o.N k c = some ((t5 N m h a o k ⟨s.st, s.br, c⟩).1, m, h, a, s'.st, s'.br, s'.c) ∧ s' = (t5 N m h a o k ⟨s.st, s.br, c⟩).2 ∧ WS s'.st ∧ s.c ≤ s'.c ∧ s'.c ≤ 500 ∧ ((o.Code = 14 → s'.br.length = s.br.length + 1) ∧ (o.Code = 16 → s'.br.length = s.br.length - 1) ∧ (o.Code ≠ 14 → o.Code ≠ 16 → s'.br.length = s.br.length)) := by
    intro k c hc1 hc2 hk
    refine ⟨_, ?_, rfl, ?_⟩
    all_goals unfold t5
    · unfold fG
      by_cases h14 : o.Code = 14
      · rw [if_pos h14, h14]
        have := lO
        cases k with
        | false =>
          simp only [Bool.false_eq_true, if_false, show ((14 : Int) == 14) = true from rfl, if_true]
          rw [uT (by simp; omega)]; rfl
        | true =>
          have hn := hk rfl
          unfold kD at hn
          simp [h14] at hn
          have q := tD hs (k := 1) (by omega) (by omega)
          have top : bY N m h a s.st s.br c = some (jR s.st 1) := by
            unfold bY
            rw [show ((s.st.length : Nat) : Int) - 1 = ((s.st.length : Nat) : Int) - ((1 : Nat) : Int) from rfl, q.2.2]; rfl
          simp only [show ((14 : Int) == 14) = true from rfl, if_true, top, Option.bind_some, aBf hN (show (jR s.st 1).length ≤ 60000 by omega)]
          rw [uT (by simp; omega)]
          simp only [Option.bind_some, iG, if_true]
          rw [show dB N m h a s.st (s.br ++ [⟨true, nO (jR s.st 1)⟩]) c 1 = _ from aEv (k := 1) hs.len (by omega)]
          rfl
      rw [if_neg h14, kB h14]
      by_cases h15' : o.Code = 15
      · have h0 := h15 (.inl h15')
        have h0' : 1 ≤ s.br.length := by have := mt wA.2 h0; omega
        rw [if_pos h15', h15', aCu h0' (by omega), eY s.br (show s.br.length - 1 < s.br.length by omega)]
        simp only [show nB s.br = s.br[s.br.length - 1] by simp [nB, show s.br.length - 1 < s.br.length by omega], Int.toNat_natCast]
        rfl
      rw [if_neg h15', kB h15']
      by_cases h16 : o.Code = 16
      · have h0 := h15 (.inr h16)
        have h0' : 1 ≤ s.br.length := by have := mt wA.2 h0; omega
        have e : sub s.br 0 ((s.br.length - 1 : Nat) : Int) = some (s.br.take (s.br.length - 1)) := by
          unfold sub; rw [if_pos ⟨by omega, by omega, by omega⟩]; simp
        rw [if_pos h16, h16, aCu h0' (by omega), e]; rfl
      rw [if_neg h16, kB h16]
      cases k with
      | true => simp only [Bool.false_eq_true, if_false, if_true, aJ8 hN hm hb ho hs (hk rfl), Option.bind_some]
      | false => rfl
    · by_cases h14 : o.Code = 14
      · simp only [if_pos h14]
        refine ⟨?_, hc1, hc2, fun _ => by simp, fun h => by omega, fun h => absurd h14 h⟩
        cases k
        · exact hs
        · exact hs.take _
      simp only [if_neg h14]
      by_cases h15' : o.Code = 15
      · simp only [if_pos h15']
        exact ⟨hs, hc1, hc2, fun h => by omega, fun h => by omega, fun _ _ => by simp⟩
      simp only [if_neg h15']
      by_cases h16 : o.Code = 16
      · simp only [if_pos h16]
        exact ⟨hs, hc1, hc2, fun h => by omega, fun h => by simp, fun _ h => by omega⟩
      simp only [if_neg h16]
      cases k with
      | true => exact ⟨aKh hN hm hb ho hs (hk rfl), hc1, hc2, fun h => by omega, fun h => by omega, fun _ _ => rfl⟩
      | false => exact ⟨hs, hc1, hc2, fun h => by omega, fun h => by omega, fun _ _ => rfl⟩
  have hJ : fR N m h a s.st s.br s.c o.Code o.Data o.M o.N = fH N m h a s.st s.br s.c o.Code o.Data o.M o.N (j4 o s.br) := by
    unfold fR lG j4
    by_cases h0 : s.br = []
    · have : ¬ (o.Code = 15 ∨ o.Code = 16) := fun h => h15 h h0
      rw [h0, if_neg this]
      simp only [fI, kB (fun h => this (.inl h)), kB (fun h => this (.inr h))]
      rfl
    · have h0' : 1 ≤ s.br.length := by have := mt wA.2 h0; omega
      rw [show (((s.br.length : Nat) : Int) == 0) = false from kB (by omega), aCu h0' (by omega), eY s.br (show s.br.length - 1 < s.br.length by omega), show nB s.br = s.br[s.br.length - 1] by simp [nB, show s.br.length - 1 < s.br.length by omega]]
      simp only [fI, aCu h0' (show s.br.length ≤ 100000 by omega), eY s.br (show s.br.length - 1 < s.br.length by omega), gH, Option.bind_some, Bool.false_eq_true, if_false]
      by_cases h15' : o.Code = 15
      · rw [if_pos (show o.Code = 15 ∨ o.Code = 16 from .inl h15'), h15']
        cases s.br[s.br.length - 1].outer <;> rfl
      · by_cases h16 : o.Code = 16
        · rw [if_pos (show o.Code = 15 ∨ o.Code = 16 from .inr h16), h16]
          cases s.br[s.br.length - 1].outer <;> rfl
        · rw [if_neg (show ¬ (o.Code = 15 ∨ o.Code = 16) by omega), kB h15', kB h16]
          cases s.br[s.br.length - 1].outer <;> rfl
  rw [hJ]
  unfold fH eO
  cases j4 o s.br with
  | false =>
    obtain ⟨s', h1, h2⟩ := hbody false s.c (Int.le_refl _) hc.2 (fun h => by cases h)
    exact ⟨s', h1, fun _ => h2⟩
  | true =>
    simp only [if_true, aKW N ho, aKU N ho, Option.bind_some]
    rw [cC (a := s.c + iW o) (by omega) (by omega)]
    by_cases h5 : 500 < s.c + iW o
    · rw [decide_eq_true h5, if_pos h5]
      exact ⟨⟨s.st, s.br, s.c + iW o⟩, rfl, fun h => by cases h⟩
    · rw [decide_eq_false h5, if_neg h5]
      simp only [Bool.false_eq_true, if_false]
      by_cases h6 : (s.st.length : Int) < kD o
      · rw [decide_eq_true h6, if_pos h6]
        exact ⟨⟨s.st, s.br, s.c + iW o⟩, rfl, fun h => by cases h⟩
      · rw [decide_eq_false h6, if_neg h6]
        obtain ⟨s', h1, h2⟩ := hbody true (s.c + iW o) (by omega) (by omega) (fun _ => by omega)
        exact ⟨s', h1, fun _ => h2⟩
end
end Go.Proofs.YtnoklhehodlkaaaGreatDoor
set_option linter.unusedSimpArgs false
set_option linter.unusedVariables false
set_option linter.unusedSectionVars false
namespace Go.Proofs.YtnoklhehodlkaaaGreatDoor
open Go Go.Vm
theorem aJy {o : aM} {r : List aM} {l q : List Bool} (h : fD (o :: r) l = some q) : (o.Code = 15 ∨ o.Code = 16 → l ≠ []) ∧ ∃ l', fD r l' = some q ∧ (o.Code = 14 → l'.length = l.length + 1) ∧ (o.Code = 16 → l'.length = l.length - 1) ∧ (o.Code ≠ 14 → o.Code ≠ 16 → l'.length = l.length) := by
  simp only [fD] at h
  by_cases h14 : o.Code = 14
  · rw [if_pos h14] at h
    exact ⟨fun h => by omega, _, h, fun _ => by simp, fun h => by omega, fun h => absurd h14 h⟩
  rw [if_neg h14] at h
  by_cases h15 : o.Code = 15
  · rw [if_pos h15] at h
    by_cases h0 : l = []
    · rw [if_pos h0] at h; cases h
    · rw [if_neg h0] at h
      by_cases h1 : l.getD (l.length - 1) true = true
      · rw [if_pos h1] at h; cases h
      · rw [if_neg h1] at h
        exact ⟨fun _ => h0, _, h, fun h => by omega, fun h => by omega, fun _ _ => by simp⟩
  rw [if_neg h15] at h
  by_cases h16 : o.Code = 16
  · rw [if_pos h16] at h
    by_cases h0 : l = []
    · rw [if_pos h0] at h; cases h
    · rw [if_neg h0] at h
      exact ⟨fun _ => h0, _, h, fun h => by omega, fun h => by simp, fun _ h => by omega⟩
  rw [if_neg h16] at h
  exact ⟨fun h => by omega, _, h, fun h => by omega, fun h => by omega, fun _ _ => rfl⟩
structure OkS (s : St) : Prop where
  ws : WS s.st
  c : 0 ≤ s.c ∧ s.c ≤ 500
def aKa (m : List Int) (h a : Int) (x : Int × St) : LR ((List Int) × Int × Int × Int × (List (List Int)) × (List aE)) ((List (List Int)) × Int × Int) :=
  if x.1 = 0 then .brk (m, h, a, x.2.c, x.2.st, x.2.br) else .ret ([], 0, x.1)
section
variable {N : Nat} (hN : 70000 ≤ N) {m : List Int} (hm : m.length = 32) (hb : Byt m)
include hN hm hb
theorem aG0 {h a : Int} {o : aM} {r : List aM} (ho : VOp o) {s : St} (hs : OkS s) {l q : List Bool} (hl : s.br.length = l.length) (hn : fD (o :: r) l = some q) (hbr : s.br.length ≤ 1000) :
    ∃ s', fR N m h a s.st s.br s.c o.Code o.Data o.M o.N = some ((eO N m h a o s).1, m, h, a, s'.st, s'.br, s'.c) ∧ ((eO N m h a o s).1 = 0 → s' = (eO N m h a o s).2 ∧ OkS s' ∧ s.c ≤ s'.c ∧ s'.br.length ≤ s.br.length + 1 ∧ ∃ l', s'.br.length = l'.length ∧ fD r l' = some q) := by
  obtain ⟨n1, l', n2, n3, n4, n5⟩ := aJy hn
  obtain ⟨s', h1, h2⟩ := aMH hN hm hb (h := h) (a := a) ho hs.ws hbr hs.c (fun h e => n1 h (wA.2 (by rw [← hl, e]; rfl)))
  refine ⟨s', h1, fun he => ?_⟩
  obtain ⟨e, g1, g2, g3, g4, g5, g6⟩ := h2 he
  have hc := hs.c
  refine ⟨e, ⟨g1, by omega, g3⟩, g2, ?_, l', ?_, n2⟩
  · by_cases h14 : o.Code = 14
    · rw [g4 h14]; omega
    · by_cases h16 : o.Code = 16
      · rw [g5 h16]; omega
      · rw [g6 h14 h16]; omega
  · by_cases h14 : o.Code = 14
    · rw [g4 h14, n3 h14, hl]
    · by_cases h16 : o.Code = 16
      · rw [g5 h16, n4 h16, hl]
      · rw [g6 h14 h16, n5 h14 h16, hl]
theorem aHH {h a : Int} : ∀ (r : List aM) (s : St) (l q : List Bool), (∀ o ∈ r, VOp o) → OkS s → s.br.length = l.length → fD r l = some q → s.br.length + r.length ≤ 1000 → (cJ N m h a r s).1 = 0 → OkS (cJ N m h a r s).2 ∧ s.c ≤ (cJ N m h a r s).2.c ∧ (cJ N m h a r s).2.br.length = q.length
  | [], s, l, q, _, hs, hl, hn, _, _ => by
    injection hn with hn
    exact ⟨hs, Int.le_refl _, hn ▸ hl⟩
  | o :: r, s, l, q, hv, hs, hl, hn, hlen, he => by
    simp only [List.length_cons] at hlen
    obtain ⟨s', h1, h2⟩ := aG0 hN hm hb (h := h) (a := a) (hv o (by simp)) hs hl hn (by omega)
    simp only [cJ] at he ⊢
    by_cases h0 : (eO N m h a o s).1 = 0
    · simp only [if_pos h0] at he ⊢
      obtain ⟨e, g1, g2, g3, l', g4, g5⟩ := h2 h0
      rw [← e] at he ⊢
      obtain ⟨k1, k2, k3⟩ := aHH r s' l' q (fun o ho => hv o (by simp [ho])) g1 g4 g5 (by omega) he
      exact ⟨k1, by omega, k3⟩
    · rw [if_neg h0] at he
      exact absurd he h0
theorem aFW {h a : Int} (ops : List aM) (e : Int) (hv : ∀ o ∈ ops, VOp o) (ho : ops.length ≤ 600) : ∀ (f j : Nat) (s : St) (l q : List Bool), ops.length - j < f → j ≤ ops.length → OkS s → s.br.length = l.length → fD (ops.drop j) l = some q → s.br.length ≤ j →
    kA N (ops, e) f (j : Int) m h a s.c s.st s.br = some (aKa m h a (cJ N m h a (ops.drop j) s))
  | 0, j, s, l, q, hf, _, _, _, _, _ => by omega
  | f + 1, j, s, l, q, hf, hj, hs, hl, hn, hbr => by
    rw [kA]
    by_cases hlt : j < ops.length
    · rw [List.drop_eq_getElem_cons hlt] at hn ⊢
      obtain ⟨s', h1, h2⟩ := aG0 hN hm hb (h := h) (a := a) (hv _ (List.getElem_mem hlt)) hs hl hn (by omega)
      rw [dT hlt, if_pos rfl, eY ops hlt]
      simp only [Option.bind_some, h1, cJ]
      by_cases h0 : (eO N m h a ops[j] s).1 = 0
      · obtain ⟨e', g1, g2, g3, l', g4, g5⟩ := h2 h0
        rw [h0, if_pos rfl, ← e', show ((0 : Int) != 0) = false from rfl, i1 (by omega)]
        exact aFW ops e hv ho f (j + 1) s' l' q (by omega) (by omega) g1 g4 g5 (by omega)
      · rw [if_neg h0, show ((eO N m h a ops[j] s).1 != 0) = true by simpa using h0]
        simp only [if_true, aKa, if_neg h0]
    · rw [dF hlt, List.drop_eq_nil_of_le (by omega)]; rfl
end
section
variable {N : Nat} (hN : 70000 ≤ N)
include hN
theorem aE5 {st : List (List Int)} (hl : st.length ≤ 1000) (h : ∀ x ∈ st, x.length ≤ 520) : nG N st = some st := by
  have lp : ∀ (f j : Nat) (acc : List (List Int)), st.length - j < f → j ≤ st.length → acc.length ≤ j → iQ N st f (j : Int) acc = some (acc ++ st.drop j) := by
    intro f
    induction f with
    | zero => intro j acc hf; omega
    | succ f ih =>
      intro j acc hf hj ha
      rw [iQ]
      by_cases hlt : j < st.length
      · have hx := h _ (List.getElem_mem hlt)
        rw [dT hlt, if_pos rfl, eY st hlt]
        simp only [Option.bind_some]
        rw [aC1 hN [st[j]] (by simp) (by simp; omega)]
        simp only [Option.bind_some, List.flatten_cons, List.flatten_nil, List.append_nil]
        rw [aBi (by simp; omega)]
        simp only [Option.bind_some, i1 (show j ≤ 100000 by omega)]
        rw [ih (j + 1) _ (by omega) (by omega) (by simp; omega), List.drop_eq_getElem_cons hlt, List.append_assoc]
        rfl
      · rw [dF hlt, List.drop_eq_nil_of_le (by omega), List.append_nil]; rfl
  have := lp N 0 [] (by omega) (by omega) (by simp)
  rw [show ((0 : Nat) : Int) = 0 from rfl] at this
  simp only [nG, this, Option.bind_some, qA, List.nil_append, List.drop_zero]
def mD (st : List (List Int)) : Bool := !decide (64 < st.length) && st.all fun x => !decide (520 < (x.length : Int))
theorem aIe (st : List (List Int)) : pA N st = some (mD st) := by
  unfold pA mD
  by_cases hl : 64 < st.length
  · rw [show decide ((64 : Int) < ((st.length : Nat) : Int)) = true from decide_eq_true (by omega), decide_eq_true hl]; rfl
  · have := aCZ (f := fL N st) (xs := st) (p := fun x => !decide (520 < (x.length : Int))) (r := false) (fun m j hj => by
      rw [fL, dT hj, if_pos rfl, eY st hj]
      simp only [Option.bind_some, i1 (show j ≤ 100000 by omega)]
      cases decide (520 < ((st[j].length : Nat) : Int)) <;> rfl) (fun m j hj => by rw [fL, dF (by omega)]; rfl) N 0 (by omega) (by omega)
    rw [show ((0 : Nat) : Int) = 0 from rfl, List.drop_zero] at this
    rw [show decide ((64 : Int) < ((st.length : Nat) : Int)) = false from decide_eq_false (by omega), decide_eq_false hl, this]
    cases st.all fun x => !decide (520 < (x.length : Int)) <;> rfl
end
theorem aFv {st : List (List Int)} (hb : ∀ x ∈ st, Byt x) : mD st = true ↔ WS st := by
  unfold mD
  constructor
  · intro h
    simp only [Bool.and_eq_true, List.all_eq_true, Bool.not_eq_true', decide_eq_false_iff_not] at h
    exact ⟨by omega, fun x hx => ⟨hb x hx, by have := h.2 x hx; omega⟩⟩
  · intro h
    simp only [Bool.and_eq_true, List.all_eq_true, Bool.not_eq_true', decide_eq_false_iff_not]
    exact ⟨by have := h.len; omega, fun x hx => by have := (h.it x hx).2; omega⟩
def oQ (N : Nat) (b : List Int) (st : List (List Int)) (m : List Int) (h a : Int) : List (List Int) × Int × Int :=
  if (bT b).2 ≠ 0 then ([], 0, (bT b).2) else if wQ (bT b).1 = false then ([], 0, 86) else if mD st = false then ([], 0, 4)
  else if (cJ N m h a (bT b).1 ⟨st, [], 0⟩).1 = 0 then ((cJ N m h a (bT b).1 ⟨st, [], 0⟩).2.st, (cJ N m h a (bT b).1 ⟨st, [], 0⟩).2.c, 0) else ([], 0, (cJ N m h a (bT b).1 ⟨st, [], 0⟩).1)
theorem aBc {l : List aM} : wQ l = true ↔ fD l [] = some [] := by
  unfold wQ
  cases fD l [] with
  | none => simp
  | some q => cases q <;> simp; omega
section
variable {N : Nat} (hN : 70000 ≤ N) {m : List Int} (hm : m.length = 32) (hb : Byt m)
include hN hm hb
theorem aHL {b : List Int} (hbb : Byt b) {st : List (List Int)} (h a : Int) (hp : (bT b).2 = 0) (hn : wQ (bT b).1 = true) (hw : WS st) (he : (cJ N m h a (bT b).1 ⟨st, [], 0⟩).1 = 0) : OkS (cJ N m h a (bT b).1 ⟨st, [], 0⟩).2 ∧ (cJ N m h a (bT b).1 ⟨st, [], 0⟩).2.br = [] := by
  obtain ⟨p1, p2, _⟩ := z6 hbb hp
  obtain ⟨g1, _, g3⟩ := aHH hN hm hb (h := h) (a := a) (bT b).1 ⟨st, [], 0⟩ [] [] p1 ⟨hw, by simp⟩ rfl (aBc.1 hn) (by simp; omega) he
  exact ⟨g1, wA.2 g3⟩
theorem aNh {b : List Int} (hbb : Byt b) {st : List (List Int)} (hst : ∀ x ∈ st, Byt x) (h a : Int) : sS N b st m h a = some (oQ N b st m h a) := by
  unfold sS oQ
  rw [aKq hN hbb]
  simp only [Option.bind_some]
  by_cases hp : (bT b).2 = 0
  · obtain ⟨p1, p2, _⟩ := z6 hbb hp
    rw [if_neg (by simpa using hp), hp, aJf hN (by omega), aIe hN]
    simp only [Option.bind_some, show ((0 : Int) != 0) = false from rfl, Bool.false_eq_true, if_false]
    cases hn : wQ (bT b).1 with
    | false => rfl
    | true =>
      cases hB : mD st with
      | false => rfl
      | true =>
        have hw := (aFv hst).1 hB
        have hl := hw.len
        have lp := aFW hN hm hb (h := h) (a := a) (bT b).1 (bT b).2 p1 (by omega) N 0 ⟨st, [], 0⟩ [] [] (by omega) (by omega) ⟨hw, by simp⟩ rfl (aBc.1 hn) (by simp)
        rw [show ((0 : Nat) : Int) = 0 from rfl, List.drop_zero] at lp
        simp only [Bool.not_true, Bool.false_eq_true, Bool.true_eq_false, if_false, aE5 hN (show st.length ≤ 1000 by omega) (fun x hx => (hw.it x hx).2), Option.bind_some]
        rw [show (kA N (bT b) N 0 m h a 0 st []) = _ from lp]
        simp only [Option.bind_some, aKa]
        by_cases he : (cJ N m h a (bT b).1 ⟨st, [], 0⟩).1 = 0
        · obtain ⟨g1, _⟩ := aHL hN hm hb hbb h a hp hn hw he
          have gl := g1.ws.len
          rw [if_pos he, if_pos he]
          simp only [t7, aE5 hN (show (cJ N m h a (bT b).1 ⟨st, [], 0⟩).2.st.length ≤ 1000 by omega) (fun x hx => (g1.ws.it x hx).2), Option.bind_some]
          rfl
        · rw [if_neg he, if_neg he]; rfl
  · rw [if_pos hp, show ((bT b).2 != 0) = true by simpa using hp]; rfl
end
end Go.Proofs.YtnoklhehodlkaaaGreatDoor
set_option linter.unusedSimpArgs false
set_option linter.unusedVariables false
set_option linter.unusedSectionVars false
namespace Go.Proofs.YtnoklhehodlkaaaGreatDoor
open Go Go.Vm
def aBC (r : List (List Int) × Int × Int) : Int := if r.2.2 ≠ 0 then r.2.2 else if r.1.length ≠ 1 then 81 else if nO (r.1.getD 0 []) then 0 else 84
section
variable {N : Nat} (hN : 70000 ≤ N) {m : List Int} (hm : m.length = 32) (hb : Byt m)
include hN hm hb
theorem aMy {b : List Int} (hbb : Byt b) {st : List (List Int)} (hst : ∀ x ∈ st, Byt x) {h a : Int} (h0 : (oQ N b st m h a).2.2 = 0) : (bT b).2 = 0 ∧ wQ (bT b).1 = true ∧ WS st ∧ (cJ N m h a (bT b).1 ⟨st, [], 0⟩).1 = 0 ∧ OkS (cJ N m h a (bT b).1 ⟨st, [], 0⟩).2 ∧ (cJ N m h a (bT b).1 ⟨st, [], 0⟩).2.br = [] ∧ oQ N b st m h a = ((cJ N m h a (bT b).1 ⟨st, [], 0⟩).2.st, (cJ N m h a (bT b).1 ⟨st, [], 0⟩).2.c, 0) := by
  unfold oQ at h0 ⊢
  by_cases hp : (bT b).2 ≠ 0
  · rw [if_pos hp] at h0; exact absurd h0 hp
  · simp only [if_neg hp] at h0 ⊢
    by_cases hn : wQ (bT b).1 = false
    · rw [if_pos hn] at h0; cases h0
    · simp only [if_neg hn] at h0 ⊢
      by_cases hB : mD st = false
      · rw [if_pos hB] at h0; cases h0
      · simp only [if_neg hB] at h0 ⊢
        by_cases he : (cJ N m h a (bT b).1 ⟨st, [], 0⟩).1 = 0
        · have hn' : wQ (bT b).1 = true := by simpa using hn
          have hw := (aFv hst).1 (by simpa using hB)
          have hp' : (bT b).2 = 0 := by simpa using hp
          obtain ⟨g1, g2⟩ := aHL hN hm hb hbb h a hp' hn' hw he
          rw [if_pos he]
          exact ⟨hp', hn', hw, he, g1, g2, rfl⟩
        · rw [if_neg he] at h0; exact absurd h0 he
theorem aG4 {b : List Int} (hbb : Byt b) {st : List (List Int)} (hst : ∀ x ∈ st, Byt x) (h a : Int) : iS N b st m h a = some (aBC (oQ N b st m h a)) := by
  unfold iS aBC
  rw [aNh hN hm hb hbb hst]
  simp only [Option.bind_some]
  by_cases h0 : (oQ N b st m h a).2.2 = 0
  · obtain ⟨_, _, _, _, g, _, e⟩ := aMy hN hm hb hbb hst h0
    rw [if_neg (show ¬ (oQ N b st m h a).2.2 ≠ 0 from fun h => h h0), show ((oQ N b st m h a).2.2 != 0) = false by simpa using h0]
    simp only [Bool.false_eq_true, if_false]
    have hw : ∀ x ∈ (oQ N b st m h a).1, x.length ≤ 520 := fun x hx => by rw [e] at hx; exact (g.ws.it x hx).2
    generalize (oQ N b st m h a).1 = l at hw ⊢
    match l with
    | [] => rfl
    | [x] =>
      have hx := hw x (by simp)
      simp only [aC7, Option.bind_some, aBf hN (show x.length ≤ 60000 by omega)]
      show (if (!nO x) = true then some 84 else some 0) = some (if nO x = true then 0 else 84)
      cases nO x <;> rfl
    | x :: y :: r =>
      have e1 : ((((x :: y :: r).length : Nat) : Int) != 1) = true := by simp; omega
      have e2 : (x :: y :: r).length ≠ 1 := by simp
      rw [e1, if_pos e2]; rfl
  · rw [if_pos h0, show ((oQ N b st m h a).2.2 != 0) = true by simpa using h0]; rfl
end
end Go.Proofs.YtnoklhehodlkaaaGreatDoor
set_option linter.unusedSimpArgs false
set_option linter.unusedVariables false
set_option linter.unusedSectionVars false
namespace Go.Proofs.YtnoklhehodlkaaaGreatDoor
open Go Go.Vm
section
variable {N : Nat} (hN : 70000 ≤ N)
include hN
theorem aI6 (c s : Nat) : r9 N (U c) (U s) = some (bM c ++ bM s) := by
  unfold r9
  rw [aX, Option.bind_some, z8 N hN, Option.bind_some, aX, Option.bind_some, z8 N hN, Option.bind_some, aIC hN _ (by simp) (by simp [bF])]
  simp
theorem aJa (n : Nat) : nM 32 (bM n) = some (bM n) := by
  unfold nM
  rw [if_pos (by rw [bF]; exact Nat.le_refl _), List.take_of_length_le (by rw [bF]; exact Nat.le_refl _)]
theorem aI2 {x : Nat} (h1 : 4 ^ x % gP ≠ 1) (m : List Int) : pO N m (bM (4 ^ x % gP)) [] = 0 := by
  unfold pO cF
  rw [if_neg (by rw [bF]; decide), aJa hN, Option.bind_some, tU hN, Option.bind_some, aX, Option.bind_some, aEA hN h1, Option.bind_some]
  rfl
theorem aKt {k x : Nat} (hk : k < gQ) (h1 : 4 ^ x % gP ≠ 1) {m : List Int} (hm : m.length = 32) (hb : Byt m) :
    pO N m (bM (4 ^ x % gP)) (bM (uH N (4 ^ k % gP) (4 ^ x % gP) m) ++ bM ((k + uH N (4 ^ k % gP) (4 ^ x % gP) m * x) % gQ)) = 0 := by
  have hv := aKj hN hk h1 hm hb
  have hd := aKM hN (aEl N (4 ^ k % gP) (4 ^ x % gP) m) (Nat.mod_lt (k + uH N (4 ^ k % gP) (4 ^ x % gP) m * x) (show 0 < gQ by decide +kernel))
  have hl : (bM (uH N (4 ^ k % gP) (4 ^ x % gP) m) ++ bM ((k + uH N (4 ^ k % gP) (4 ^ x % gP) m * x) % gQ)).length = 64 := by simp [bF]
  generalize bM (uH N (4 ^ k % gP) (4 ^ x % gP) m) ++ bM ((k + uH N (4 ^ k % gP) (4 ^ x % gP) m * x) % gQ) = sg at *
  unfold pO cF
  rw [if_neg (by rw [bF]; decide), aJa hN, Option.bind_some, tU hN, Option.bind_some, aX, Option.bind_some, aEA hN h1, Option.bind_some]
  simp only [Bool.not_true, Bool.false_eq_true, if_false]
  rw [if_neg (by rw [hl]; decide), hd, Option.bind_some]
  simp [aX, cZ hm, hv, eJ]
end
end Go.Proofs.YtnoklhehodlkaaaGreatDoor
set_option linter.unusedSimpArgs false
set_option linter.unusedVariables false
set_option linter.unusedSectionVars false
namespace Go.Proofs.YtnoklhehodlkaaaGreatDoor
open Go Go.Vm
theorem aLD (b : Nat) (hb : b < 2 ^ 256) (h : ((List.range 256).all fun j => pm' 4 gP 256 b * 4 ^ j % gP != 1) = true) {j : Nat} (hj : j < 256) : 4 ^ (b + j) % gP ≠ 1 := by
  have := List.all_eq_true.1 h j (List.mem_range.2 hj)
  rw [aF1, aHW 4 gP 256 b hb, Nat.mul_mod, Nat.mod_mod, ← Nat.mul_mod, ← Nat.pow_add] at this
  simpa using this
abbrev aC4 : Nat := 26959946667150639794667015087019630673637144422540572481103610249216
theorem aNv {j : Nat} (hj : j < 256) : 4 ^ (aC4 + j) % gP ≠ 1 := aLD aC4 (by decide +kernel) (by decide +kernel) hj
theorem aNz {v : Nat} (hv : v < 256) : xA [0, 0, 0, 1, 0, 0, 0, 0, 0, 0, 0, 0, 0, 0, 0, 0, 0, 0, 0, 0, 0, 0, 0, 0, 0, 0, 0, 0, 0, 0, 0, (v : Int)] = aC4 + v := by
  have h : (v % 256) = v := Nat.mod_eq_of_lt hv
  simp [xA, sL, byF, vl, h]
  show _ = 26959946667150639794667015087019630673637144422540572481103610249216 + v
  omega
end Go.Proofs.YtnoklhehodlkaaaGreatDoor
set_option linter.unusedSimpArgs false
set_option linter.unusedVariables false
set_option linter.unusedSectionVars false
namespace Go.Proofs.YtnoklhehodlkaaaGreatDoor
open Go Go.Vm
structure Pz (b : List Int) (l : List aM) : Prop where
  byt : Byt b
  eq : bT b = (l, 0)
theorem Pz.app {a b : List Int} {x y : List aM} (ha : Pz a x) (hb : Pz b y) (hl : a.length + b.length ≤ 520) : Pz (a ++ b) (x ++ y) :=
  ⟨ha.byt.append hb.byt, by rw [aHV ha.byt hb.byt (by rw [ha.eq]) (by rw [hb.eq]) hl, ha.eq, hb.eq]⟩
def gW (d : List Int) : List Int := 1 :: ((d.length : Nat) : Int) :: d
theorem kX (d : List Int) : (gW d).length = d.length + 2 := rfl
theorem Pz.push {d : List Int} (hb : Byt d) (hl : d.length ≤ 255) : Pz (gW d) [⟨1, d, 0, 0⟩] := by
  refine ⟨fun x hx => ?_, ?_⟩
  · simp only [gW, List.mem_cons] at hx
    rcases hx with rfl | rfl | hx
    · omega
    · omega
    · exact hb x hx
  · unfold bT
    rw [if_neg (by rw [kX]; omega)]
    have hn : e8 1 (((d.length : Nat) : Int) :: d) = (⟨1, d, 0, 0⟩, [], 0) := by
      unfold e8
      rw [if_neg (by omega), if_pos rfl]
      simp only [Int.lt_irrefl, if_false, Int.toNat_natCast, List.take_length, List.drop_length]
    unfold gW eW
    simp only [hn]
    rfl
theorem Pz.code {c : Int} (h : c ∈ [3, 10, 12, 13, 14, 15, 16]) : Pz [c] [⟨c, [], 0, 0⟩] := by
  simp only [List.mem_cons, List.not_mem_nil, or_false] at h
  rcases h with rfl | rfl | rfl | rfl | rfl | rfl | rfl <;> exact ⟨by intro x hx; simp at hx; omega, by rfl⟩
theorem Pz.multi {m n : Nat} (h1 : 1 ≤ m) (h2 : m ≤ n) (h3 : n ≤ 15) : Pz [11, (m : Int), (n : Int)] [⟨11, [], (m : Int), (n : Int)⟩] := by
  refine ⟨fun x hx => ?_, ?_⟩
  · simp only [List.mem_cons, List.not_mem_nil, or_false] at hx
    rcases hx with rfl | rfl | rfl <;> omega
  · have hr : tJ (m : Int) (n : Int) = true := by
      unfold tJ
      rw [decide_eq_true (show (1 : Int) ≤ (n : Int) by omega), decide_eq_true (show (n : Int) ≤ 15 by omega), decide_eq_true (show (1 : Int) ≤ (m : Int) by omega), decide_eq_true (show (m : Int) ≤ (n : Int) by omega)]
      rfl
    have hn : e8 11 [(m : Int), (n : Int)] = (⟨11, [], (m : Int), (n : Int)⟩, [], 0) := by
      unfold e8
      rw [if_neg (by omega), if_neg (by omega), if_pos rfl]
      simp only [hr, if_true]
    unfold bT eW
    simp only [hn]
    rfl
section
variable {N : Nat} (hN : 70000 ≤ N)
include hN
theorem aD5 {d : List Int} (hl : d.length ≤ 255) : l6 N d = some (gW d) := by
  unfold l6
  rw [aC1 hN _ (by simp) (by simp; omega), IntKind.wrap_u8, show ((d.length : Nat) : Int) % 256 = ((d.length : Nat) : Int) by omega]
  simp [gW]
theorem aKz (p : Nat) : qK N (U p) = some (gW (bM p) ++ [10]) := by
  unfold qK
  rw [aX, Option.bind_some, aAv hN, Option.bind_some, cZ (bF p), Option.bind_some, aD5 hN (by rw [bF]; omega), Option.bind_some, aC1 hN _ (by simp) (by simp [gW, bF])]
  simp
theorem aMA {n : Int} {d rest : List Int} (hi : dA N n = some d) (hd : d.length ≤ 255) (hr : rest.length ≤ 1000) : rM N n rest = some (gW d ++ ([12, 3] ++ rest)) := by
  unfold rM
  rw [hi, Option.bind_some, aD5 hN hd, Option.bind_some, aC1 hN _ (by simp) (by simp [gW]; omega)]
  simp
theorem aME {n : Int} {d rest : List Int} (hi : dA N n = some d) (hd : d.length ≤ 255) (hr : rest.length ≤ 1000) : r7 N n rest = some (gW d ++ ([13, 3] ++ rest)) := by
  unfold r7
  rw [hi, Option.bind_some, aD5 hN hd, Option.bind_some, aC1 hN _ (by simp) (by simp [gW]; omega)]
  simp
theorem aJS {a b : List Int} (ha : a.length ≤ 1000) (hb : b.length ≤ 1000) : qG N a b = some ([14] ++ (a ++ ([15] ++ (b ++ [16])))) := by
  unfold qG
  rw [aC1 hN _ (by simp) (by simp; omega)]
  simp
end
end Go.Proofs.YtnoklhehodlkaaaGreatDoor
set_option linter.unusedSimpArgs false
set_option linter.unusedVariables false
set_option linter.unusedSectionVars false
namespace Go.Proofs.YtnoklhehodlkaaaGreatDoor
open Go Go.Vm
theorem aIS {N : Nat} (hN : 70000 ≤ N) : ∃ m, N = m + 3 := ⟨N - 3, by omega⟩
theorem aB6 {N m n : Nat} (h0 : 0 < n) (hn : n < 4294967296) (acc : List Int) (hl : acc.length ≤ 1000) : bL N (m + 1) (n : Int) acc = bL N m ((n / 256 : Nat) : Int) (acc ++ [((n % 256 : Nat) : Int)]) := by
  rw [bL, if_pos (decide_eq_true (by omega)), rL (by simp; omega), Option.bind_some, show (8 : Int) = ((8 : Nat) : Int) from rfl, sH (k := .u32) _ _ (show n < 2 ^ 32 by omega), Option.bind_some, IntKind.wrap_u8]
  rfl
theorem aNp {N : Nat} (hN : 70000 ≤ N) {n : Nat} (hn : n < 65536) : ∃ d, dA N (n : Int) = some d ∧ d.length ≤ 2 ∧ Byt d ∧ aAm N d = ((n : Int), 0) := by
  obtain ⟨m, hm⟩ := aIS hN
  unfold dA
  have hend : ∀ (f : Nat) (acc : List Int), bL N (f + 1) ((0 : Nat) : Int) acc = some acc := fun f acc => by rw [bL]; rfl
  by_cases h0 : n = 0
  · subst h0
    refine ⟨[], ?_, by decide, (by intro x hx; cases hx), ?_⟩
    · rw [show bL N N ((0 : Nat) : Int) [] = bL N (m + 2 + 1) ((0 : Nat) : Int) [] by rw [← hm], hend]
      rfl
    · unfold aAm fA dP
      rw [show bJ N [] N 0 0 = bJ N [] (m + 2 + 1) 0 0 by rw [← hm]]
      rfl
  · by_cases h1 : n < 256
    · refine ⟨[(n : Int)], ?_, by simp, (by intro x hx; simp at hx; omega), ?_⟩
      · rw [show bL N N (n : Int) [] = bL N (m + 2 + 1) (n : Int) [] by rw [← hm], aB6 (by omega) (by omega) _ (by simp), show n / 256 = 0 by omega, hend, show n % 256 = n by omega]
        rfl
      · unfold aAm fA dP
        rw [show bJ N [(n : Int)] N 0 0 = bJ N [(n : Int)] (m + 1 + 1 + 1) 0 0 by rw [← hm]]
        have hs : shl .u32 (IntKind.u32.wrap (n : Int)) (IntKind.i64.wrap (8 * 0)) = some (n : Int) := by
          rw [IntKind.wrap_u32, show (n : Int) % 4294967296 = (n : Int) by omega, show IntKind.i64.wrap (8 * 0) = ((0 : Nat) : Int) by decide +kernel, uL (k := .u32) rfl, Nat.pow_zero, Nat.mul_one, show n % 2 ^ IntKind.u32.bits = n from Nat.mod_eq_of_lt (show n < 2 ^ 32 by omega)]
        have ho : bits .or .u32 0 (n : Int) = (n : Int) := by
          rw [show (0 : Int) = ((0 : Nat) : Int) from rfl, l5 (k := .u32) rfl 0 n (by decide) (show n < 2 ^ 32 by omega), Nat.zero_or]
        have e1 : bJ N [(n : Int)] (m + 1 + 1 + 1) 0 0 = some (n : Int) := by
          rw [bJ, if_pos (by rfl), show cU [(n : Int)] 0 = some (n : Int) from rfl, Option.bind_some, hs, Option.bind_some, ho, bJ]
          rfl
        rw [e1]
        simp [h0, kM, show IntKind.i64.wrap 0 = 0 by decide +kernel, aC7]
    · refine ⟨[((n % 256 : Nat) : Int), ((n / 256 : Nat) : Int)], ?_, by simp, (by intro x hx; simp only [List.mem_cons, List.not_mem_nil, or_false] at hx; rcases hx with rfl | rfl <;> omega), ?_⟩
      · rw [show bL N N (n : Int) [] = bL N (m + 1 + 1 + 1) (n : Int) [] by rw [← hm], aB6 (by omega) (by omega) _ (by simp), aB6 (by omega) (by omega) _ (by simp), show n / 256 / 256 = 0 by omega, hend, show n / 256 % 256 = n / 256 by omega]
        rfl
      · unfold aAm fA dP
        generalize hlo : n % 256 = lo
        generalize hhi : n / 256 = hi
        have l1 : lo < 256 := by omega
        have l2 : hi < 256 := by omega
        have l3 : hi ≠ 0 := by omega
        have l4 : n = hi * 2 ^ 8 + lo := by omega
        rw [show bJ N [(lo : Int), (hi : Int)] N 0 0 = bJ N [(lo : Int), (hi : Int)] (m + 1 + 1 + 1) 0 0 by rw [← hm]]
        have hs : shl .u32 (IntKind.u32.wrap (lo : Int)) (IntKind.i64.wrap (8 * 0)) = some (lo : Int) := by
          rw [IntKind.wrap_u32, show (lo : Int) % 4294967296 = (lo : Int) by omega, show IntKind.i64.wrap (8 * 0) = ((0 : Nat) : Int) by decide +kernel, uL (k := .u32) rfl, Nat.pow_zero, Nat.mul_one, show lo % 2 ^ IntKind.u32.bits = lo from Nat.mod_eq_of_lt (show lo < 2 ^ 32 by omega)]
        have hs2 : shl .u32 (IntKind.u32.wrap (hi : Int)) (IntKind.i64.wrap (8 * 1)) = some ((hi * 2 ^ 8 : Nat) : Int) := by
          rw [IntKind.wrap_u32, show (hi : Int) % 4294967296 = (hi : Int) by omega, show IntKind.i64.wrap (8 * 1) = ((8 : Nat) : Int) by decide +kernel, uL (k := .u32) rfl, show hi * 2 ^ 8 % 2 ^ IntKind.u32.bits = hi * 2 ^ 8 from Nat.mod_eq_of_lt (show hi * 2 ^ 8 < 2 ^ 32 by omega)]
        have ho : bits .or .u32 0 (lo : Int) = (lo : Int) := by
          rw [show (0 : Int) = ((0 : Nat) : Int) from rfl, l5 (k := .u32) rfl 0 lo (by decide) (show lo < 2 ^ 32 by omega), Nat.zero_or]
        have ho2 : bits .or .u32 (lo : Int) ((hi * 2 ^ 8 : Nat) : Int) = (n : Int) := by
          rw [l5 (k := .u32) rfl lo _ (show lo < 2 ^ 32 by omega) (show hi * 2 ^ 8 < 2 ^ 32 by omega), Nat.or_comm, Nat.mul_comm, ← Nat.two_pow_add_eq_or_of_lt (show lo < 2 ^ 8 by omega), l4, Nat.mul_comm]
        have e1 : bJ N [(lo : Int), (hi : Int)] (m + 1 + 1 + 1) 0 0 = some (n : Int) := by
          rw [bJ, if_pos (by rfl), show cU [(lo : Int), (hi : Int)] 0 = some (lo : Int) from rfl, Option.bind_some, hs, Option.bind_some, ho, show IntKind.i64.wrap (0 + 1) = 1 by decide +kernel, bJ, if_pos (by rfl), show cU [(lo : Int), (hi : Int)] 1 = some (hi : Int) from rfl, Option.bind_some, hs2, Option.bind_some, ho2, show IntKind.i64.wrap (1 + 1) = 2 by decide +kernel, bJ]
          rfl
        rw [e1]
        simp [l3, kM, show IntKind.i64.wrap 1 = 1 by decide +kernel, aM4]
end Go.Proofs.YtnoklhehodlkaaaGreatDoor
set_option linter.unusedSimpArgs false
set_option linter.unusedVariables false
set_option linter.unusedSectionVars false
namespace Go.Proofs.YtnoklhehodlkaaaGreatDoor
open Go Go.Vm
theorem aEJ {N : Nat} {m : List Int} {h a : Int} : ∀ (x y : List aM) (s : St), (cJ N m h a x s).1 = 0 → cJ N m h a (x ++ y) s = cJ N m h a y (cJ N m h a x s).2
  | [], y, s, _ => rfl
  | o :: x, y, s, h0 => by
    simp only [List.cons_append, cJ] at h0 ⊢
    split at h0
    · rename_i h1
      rw [if_pos h1, if_pos h1]
      exact aEJ x y _ h0
    · rename_i h1
      exact absurd h0 h1
theorem aAc {N : Nat} {m : List Int} {h a : Int} {d : List Int} {st : List (List Int)} {br : List aE} (hbr : nB br = ⟨true, true⟩) {c : Int} (hs : st.length < 64) (hc : c + 1 ≤ 500) : eO N m h a ⟨1, d, 0, 0⟩ ⟨st, br, c⟩ = (0, ⟨st ++ [d], br, c + 1⟩) := by
  have h2 : w8 st d = (0, st ++ [d]) := by unfold w8; rw [if_neg (by omega)]
  unfold eO
  rw [show j4 ⟨1, d, 0, 0⟩ br = true by simp [j4, hbr], if_pos rfl, show iW ⟨1, d, 0, 0⟩ = 1 from rfl, if_neg (show ¬ 500 < c + 1 by omega), show kD ⟨1, d, 0, 0⟩ = 0 from rfl, if_neg (show ¬ ((st.length : Nat) : Int) < 0 by omega)]
  simp [t5, qE, h2]
def s9 (ss : List (List Int)) : Nat := (ss.filter fun x => decide (0 < (x.length : Int))).length
theorem aGm {N : Nat} {m : List Int} : ∀ (ks ss : List (List Int)) (c : Int), ks.length = ss.length → (∀ p ∈ ks.zip ss, pO N m p.1 p.2 = 0) → yB N m ks ss c = (0, c + (s9 ss : Nat))
  | [], [], c, _, _ => by simp [yB, s9]
  | [], _ :: _, _, hl, _ => by simp at hl
  | _ :: _, [], _, hl, _ => by simp at hl
  | k :: ks, s :: ss, c, hl, hv => by
    have h1 : pO N m k s = 0 := hv (k, s) (by simp)
    have ih := fun c' => aGm ks ss c' (by simpa using hl) (fun p hp => hv p (by simp [hp]))
    rw [yB, h1]
    simp only [show ((0 : Int) != 0) = false from rfl, Bool.false_eq_true, if_false, ih]
    unfold s9
    by_cases hp : decide (0 < (s.length : Int)) = true
    · rw [if_pos hp, List.filter_cons_of_pos (p := fun x : List Int => decide (0 < (x.length : Int))) hp, List.length_cons]
      congr 1
      omega
    · rw [if_neg hp, List.filter_cons_of_neg (p := fun x : List Int => decide (0 < (x.length : Int))) hp]
theorem aIc {N : Nat} {m : List Int} {ks ss : List (List Int)} (c8 : Int) (hl : ks.length = ss.length) (hv : ∀ p ∈ ks.zip ss, pO N m p.1 p.2 = 0) : sT N m (ss ++ ks) c8 ks.length = (0, [sP (decide (c8 ≤ (s9 ss : Nat)))]) := by
  have e1 : (ss ++ ks).drop ((ss ++ ks).length - ks.length) = ks := by
    rw [List.length_append, Nat.add_sub_cancel, List.drop_left]
  have e2 : ((ss ++ ks).take ((ss ++ ks).length - ks.length)).drop ((ss ++ ks).length - 2 * ks.length) = ss := by
    rw [List.length_append, Nat.add_sub_cancel, List.take_left, show ss.length + ks.length - 2 * ks.length = 0 by omega, List.drop_zero]
  have e3 : (ss ++ ks).take ((ss ++ ks).length - 2 * ks.length) = [] := by
    rw [List.length_append, show ss.length + ks.length - 2 * ks.length = 0 by omega, List.take_zero]
  unfold sT
  rw [e1, e2, e3, aGm ks ss 0 hl hv, if_pos rfl]
  simp
end Go.Proofs.YtnoklhehodlkaaaGreatDoor
set_option linter.unusedSimpArgs false
set_option linter.unusedVariables false
set_option linter.unusedSectionVars false
namespace Go.Proofs.YtnoklhehodlkaaaGreatDoor
open Go Go.Vm
def sJ (p : Nat) : aM := ⟨1, bM p, 0, 0⟩
section
variable {N : Nat} (hN : 70000 ≤ N)
include hN
theorem aDv (vm : Int) (ps : List Nat) (hp : ps.length ≤ 100) : ∀ (f j : Nat) (acc : List aM), ps.length - j < f → j ≤ ps.length → acc.length ≤ j → jM N vm (ps.map U) f (j : Int) acc = some (acc ++ (ps.drop j).map sJ)
  | 0, j, acc, hf, _, _ => by omega
  | f + 1, j, acc, hf, hj, ha => by
    rw [jM]
    by_cases h : j < ps.length
    · have hx : cU (ps.map U) (j : Int) = some (U ps[j]) := by
        rw [eY _ (by simpa using h), List.getElem_map]
      rw [if_pos (decide_eq_true (by simp; omega)), hx, Option.bind_some, aX, Option.bind_some, aAv hN, Option.bind_some, cZ (bF _), Option.bind_some, uT (by have := lO; simp; omega), Option.bind_some, i1 (show j ≤ 100000 by omega), aDv vm ps hp f (j + 1) _ (by omega) (by omega) (by simp; omega), List.drop_eq_getElem_cons h, List.map_cons, List.append_assoc]
      rfl
    · rw [if_neg (by simp; omega), List.drop_eq_nil_of_le (by omega)]
      simp
theorem aIW (p : Nat) : k6 N 1 (bM p) 0 0 = some 0 := by
  have hk : kT N 1 = some true := rfl
  unfold k6
  rw [hk, Option.bind_some]
  simp [lD, jS, k7, bF]
theorem aHh {m n : Nat} (h1 : 1 ≤ m) (h2 : m ≤ n) (h3 : n ≤ 15) : k6 N 11 [] (m : Int) (n : Int) = some 0 := by
  have hk : kT N 11 = some true := rfl
  have hr : tJ (m : Int) (n : Int) = true := by
    unfold tJ
    rw [decide_eq_true (show (1 : Int) ≤ (n : Int) by omega), decide_eq_true (show (n : Int) ≤ 15 by omega), decide_eq_true (show (1 : Int) ≤ (m : Int) by omega), decide_eq_true (show (m : Int) ≤ (n : Int) by omega)]
    rfl
  unfold k6
  rw [hk, Option.bind_some]
  simp [lD, jS, k7, aGF, hr]
omit hN in
theorem aGJ (l : List aM) (e : aM → List Int) (hn : l.length ≤ 1000) (hl : ∀ o ∈ l, k6 N o.Code o.Data o.M o.N = some 0 ∧ nC N o.Code o.Data o.M o.N = some (e o)) : ∀ (f j : Nat) (acc : List Int), l.length - j < f → j ≤ l.length → acc.length + ((l.drop j).flatMap e).length ≤ 100000 → f9 N l f (j : Int) acc = some (.brk (acc ++ (l.drop j).flatMap e))
  | 0, j, acc, hf, _, _ => by omega
  | f + 1, j, acc, hf, hj, ha => by
    rw [f9]
    by_cases h : j < l.length
    · obtain ⟨h1, h2⟩ := hl l[j] (List.getElem_mem h)
      rw [List.drop_eq_getElem_cons h, List.flatMap_cons, List.length_append] at ha
      rw [dT h, if_pos rfl, eY l h, Option.bind_some, h1, Option.bind_some]
      simp only [show ((0 : Int) != 0) = false from rfl, Bool.false_eq_true, if_false]
      rw [h2, Option.bind_some, rL (by omega), Option.bind_some, i1 (show j ≤ 100000 by omega), aGJ l e hn hl f (j + 1) _ (by omega) (by omega) (by rw [List.length_append]; omega), List.drop_eq_getElem_cons h, List.flatMap_cons, List.append_assoc]
    · rw [dF h, List.drop_eq_nil_of_le (by omega)]
      simp
def aDe (o : aM) : List Int := if o.Code = 1 then gW o.Data else [o.Code, o.M, o.N]
def o6 (k : Nat) (ps : List Nat) : List Int := (ps.map sJ ++ [(⟨11, [], (k : Int), (ps.length : Int)⟩ : aM)]).flatMap aDe
omit hN in
theorem aCY (ps : List Nat) : ((ps.map sJ).flatMap aDe).length = 34 * ps.length := by
  induction ps with
  | nil => rfl
  | cons p ps ih =>
    rw [List.map_cons, List.flatMap_cons, List.length_append, ih, List.length_cons, show aDe (sJ p) = gW (bM p) from rfl, kX, bF]
    omega
omit hN in
theorem aAV (k : Nat) (ps : List Nat) : (o6 k ps).length = 34 * ps.length + 3 := by
  unfold o6
  rw [List.flatMap_append, List.length_append, aCY]
  rfl
theorem aMk {k : Nat} {ps : List Nat} (h1 : 1 ≤ k) (h2 : k ≤ ps.length) (h3 : ps.length ≤ 15) : sB N (k : Int) (ps.map U) = some (o6 k ps, 0) := by
  have hm := aDv hN (k : Int) ps (by omega) N 0 [] (by omega) (by omega) (by simp)
  have hl := aAV k ps
  rw [show ((0 : Nat) : Int) = 0 from rfl, List.drop_zero, List.nil_append] at hm
  have ha := aGJ (N := N) (ps.map sJ ++ [(⟨11, [], (k : Int), (ps.length : Int)⟩ : aM)]) aDe (by simp; omega) (fun o ho => by
    rw [List.mem_append, List.mem_map, List.mem_singleton] at ho
    rcases ho with ⟨p, _, rfl⟩ | rfl
    · refine ⟨aIW hN p, ?_⟩
      unfold nC
      rw [if_pos (by rfl), aD5 hN (by show (bM p).length ≤ 255; rw [bF]; omega)]
      rfl
    · refine ⟨aHh hN h1 h2 h3, ?_⟩
      unfold nC
      rw [if_neg (show ¬ ((11 : Int) == 1) = true by decide), if_pos (by rfl), IntKind.wrap_u8, IntKind.wrap_u8]
      show some [(11 : Int), (k : Int) % 256, (ps.length : Int) % 256] = some [11, (k : Int), (ps.length : Int)]
      rw [show (k : Int) % 256 = k by omega, show (ps.length : Int) % 256 = ps.length by omega]) N 0 [] (by simp; omega) (by omega) (by
    rw [List.drop_zero, show (List.flatMap aDe _) = o6 k ps from rfl, hl]; simp; omega)
  rw [show ((0 : Nat) : Int) = 0 from rfl, List.drop_zero, List.nil_append, show (List.flatMap aDe _) = o6 k ps from rfl] at ha
  unfold sB
  rw [hm, Option.bind_some]
  unfold rD
  rw [List.length_map, uT (by have := lO; simp; omega), Option.bind_some]
  unfold q5
  rw [ha, Option.bind_some]
  simp only [n6]
  rw [if_neg (by rw [hl]; simp; omega), Option.bind_some]
end
end Go.Proofs.YtnoklhehodlkaaaGreatDoor
set_option linter.unusedSimpArgs false
set_option linter.unusedVariables false
set_option linter.unusedSectionVars false
namespace Go.Proofs.YtnoklhehodlkaaaGreatDoor
open Go Go.Vm
theorem Pz.keys : ∀ (ps : List Nat), ps.length ≤ 15 → Pz ((ps.map sJ).flatMap aDe) (ps.map sJ)
  | [], _ => ⟨(by intro x hx; cases hx), rfl⟩
  | p :: ps, h => by
    have ih := Pz.keys ps (by simp at h; omega)
    have hk : Pz (gW (bM p)) [sJ p] := Pz.push (pE p) (by rw [bF]; omega)
    have := hk.app ih (by rw [aCY, kX, bF]; simp at h; omega)
    rw [List.map_cons, List.flatMap_cons]
    exact this
theorem Pz.multiS {k : Nat} {ps : List Nat} (h1 : 1 ≤ k) (h2 : k ≤ ps.length) (h3 : ps.length ≤ 15) : Pz (o6 k ps) (ps.map sJ ++ [⟨11, [], (k : Int), (ps.length : Int)⟩]) := by
  have hl := aCY ps
  have := (Pz.keys ps h3).app (Pz.multi h1 h2 h3) (by rw [hl]; simp; omega)
  unfold o6
  rw [List.flatMap_append]
  exact this
theorem aFY {N : Nat} {m : List Int} {h a : Int} {br : List aE} (hbr : nB br = ⟨true, true⟩) : ∀ (ps : List Nat) (st : List (List Int)) (c : Int), st.length + ps.length ≤ 64 → c + (ps.length : Int) ≤ 500 → cJ N m h a (ps.map sJ) ⟨st, br, c⟩ = (0, ⟨st ++ ps.map bM, br, c + (ps.length : Int)⟩)
  | [], st, c, _, _ => by simp [cJ]
  | p :: ps, st, c, h1, h2 => by
    simp only [List.length_cons] at h1 h2
    have hs := aAc (N := N) (m := m) (h := h) (a := a) (d := bM p) (st := st) hbr (c := c) (by omega) (by omega)
    rw [List.map_cons, cJ, show eO N m h a (sJ p) ⟨st, br, c⟩ = _ from hs, if_pos rfl, aFY hbr ps _ _ (by simp; omega) (by omega)]
    simp only [List.append_assoc, List.map_cons, List.length_cons]
    congr 2
    simp
    omega
theorem aID {N : Nat} {m : List Int} {h a : Int} {br : List aE} (hbr : nB br = ⟨true, true⟩) {k : Nat} {ks ss : List (List Int)} {c : Int} (hl : ks.length = ss.length) (hv : ∀ p ∈ ks.zip ss, pO N m p.1 p.2 = 0) (hc : c + (1 + 20 * (ks.length : Int)) ≤ 500) :
    eO N m h a ⟨11, [], (k : Int), (ks.length : Int)⟩ ⟨ss ++ ks, br, c⟩ = (0, ⟨[sP (decide ((k : Int) ≤ (s9 ss : Nat)))], br, c + (1 + 20 * (ks.length : Int))⟩) := by
  have hs := aIc (k : Int) hl hv
  unfold eO
  rw [show j4 ⟨11, [], (k : Int), (ks.length : Int)⟩ br = true by simp [j4, hbr], if_pos rfl, show iW ⟨11, [], (k : Int), (ks.length : Int)⟩ = 1 + 20 * (ks.length : Int) from rfl, if_neg (show ¬ 500 < c + (1 + 20 * (ks.length : Int)) by omega), show kD ⟨11, [], (k : Int), (ks.length : Int)⟩ = 2 * (ks.length : Int) from rfl, if_neg (show ¬ (((ss ++ ks).length : Nat) : Int) < 2 * (ks.length : Int) by rw [List.length_append]; omega)]
  simp [t5, qE, hs]
theorem aEY {N : Nat} {m : List Int} {h a : Int} {br : List aE} (hbr : nB br = ⟨true, true⟩) {k : Nat} {ps : List Nat} {ss : List (List Int)} {c : Int} (hl : ps.length = ss.length) (h3 : ps.length ≤ 15) (hc : c ≤ 100) (hv : ∀ p ∈ (ps.map bM).zip ss, pO N m p.1 p.2 = 0) :
    cJ N m h a (ps.map sJ ++ [⟨11, [], (k : Int), (ps.length : Int)⟩]) ⟨ss, br, c⟩ = (0, ⟨[sP (decide ((k : Int) ≤ (s9 ss : Nat)))], br, c + (ps.length : Int) + (1 + 20 * (ps.length : Int))⟩) := by
  have hk := aFY (N := N) (m := m) (h := h) (a := a) hbr ps ss c (by omega) (by omega)
  have hs := aID (N := N) (m := m) (h := h) (a := a) hbr (k := k) (ks := ps.map bM) (ss := ss) (c := c + (ps.length : Int)) (by simpa using hl) hv (by simp; omega)
  rw [List.length_map] at hs
  rw [aEJ _ _ _ (by rw [hk]), hk, cJ, hs]
  rfl
theorem aBd : ∀ (l : List aM) (q : List Bool), (∀ o ∈ l, o.Code ≠ 14 ∧ o.Code ≠ 15 ∧ o.Code ≠ 16) → fD l q = some q
  | [], q, _ => rfl
  | o :: l, q, h => by
    obtain ⟨h1, h2, h3⟩ := h o (by simp)
    rw [fD, if_neg h1, if_neg h2, if_neg h3]
    exact aBd l q (fun o' ho => h o' (by simp [ho]))
theorem aJl {N : Nat} {m : List Int} {h a : Int} {b : List Int} {l : List aM} {st : List (List Int)} {x : List Int} {c : Int} (hp : Pz b l) (hn : fD l [] = some []) (hb : mD st = true) (hr : cJ N m h a l ⟨st, [], 0⟩ = (0, ⟨[x], [], c⟩)) : aBC (oQ N b st m h a) = if nO x then 0 else 84 := by
  have hn' := aBc.2 hn
  have e : oQ N b st m h a = ([x], c, 0) := by
    unfold oQ
    rw [hp.eq]
    simp [hn', hb, hr]
  rw [e]
  rfl
theorem aLM {N : Nat} {m : List Int} {h a : Int} {b : List Int} {l : List aM} {st : List (List Int)} (hp : Pz b l) (hn : fD l [] = some []) (hb : mD st = true) (hr : (cJ N m h a l ⟨st, [], 0⟩).1 ≠ 0) : aBC (oQ N b st m h a) = (cJ N m h a l ⟨st, [], 0⟩).1 := by
  have hn' := aBc.2 hn
  have e : oQ N b st m h a = ([], 0, (cJ N m h a l ⟨st, [], 0⟩).1) := by
    unfold oQ
    rw [hp.eq]
    simp [hn', hb, hr]
  rw [e]
  unfold aBC
  rw [if_pos hr]
theorem aEc (v : Bool) : nO (sP v) = v := by cases v <;> rfl
theorem aI9 {N : Nat} {m : List Int} {h a : Int} {k : Nat} {ps : List Nat} {ss : List (List Int)} (h1 : 1 ≤ k) (h2 : k ≤ ps.length) (hl : ps.length = ss.length) (h3 : ps.length ≤ 15) (hbd : mD ss = true) (hv : ∀ p ∈ (ps.map bM).zip ss, pO N m p.1 p.2 = 0) :
    aBC (oQ N (o6 k ps) ss m h a) = if k ≤ s9 ss then 0 else 84 := by
  rw [aJl (Pz.multiS h1 h2 h3) (aBd _ _ (fun o ho => by
    rw [List.mem_append, List.mem_map, List.mem_singleton] at ho
    rcases ho with ⟨p, _, rfl⟩ | rfl
    · exact ⟨by show (1 : Int) ≠ 14; decide, by show (1 : Int) ≠ 15; decide, by show (1 : Int) ≠ 16; decide⟩
    · exact ⟨by show (11 : Int) ≠ 14; decide, by show (11 : Int) ≠ 15; decide, by show (11 : Int) ≠ 16; decide⟩)) hbd (aEY rfl hl h3 (by omega) hv), aEc]
  simp
end Go.Proofs.YtnoklhehodlkaaaGreatDoor
set_option linter.unusedSimpArgs false
set_option linter.unusedVariables false
set_option linter.unusedSectionVars false
namespace Go.Proofs.YtnoklhehodlkaaaGreatDoor
open Go Go.Vm
section
variable {N : Nat} {m : List Int} {h a : Int}
theorem aEg (st : List (List Int)) (d : List Int) : jR (st ++ [d]) 1 = d := by
  unfold jR
  rw [List.length_append, List.length_singleton, Nat.add_sub_cancel, List.getD_eq_getElem?_getD, List.getElem?_append_right (Nat.le_refl _), Nat.sub_self]
  rfl
theorem aGL (st : List (List Int)) (d : List Int) : (st ++ [d]).take ((st ++ [d]).length - 1) = st := by
  rw [List.length_append, List.length_singleton, Nat.add_sub_cancel, List.take_left]
theorem aMs {ss : List (List Int)} {c : Int} (hc : c ≤ 100) : eO N m h a ⟨14, [], 0, 0⟩ ⟨ss ++ [[]], [], c⟩ = (0, ⟨ss, [⟨true, false⟩], c + 1⟩) := by
  unfold eO
  rw [show j4 ⟨14, [], 0, 0⟩ [] = true from rfl, if_pos rfl, show iW ⟨14, [], 0, 0⟩ = 1 from rfl, if_neg (show ¬ 500 < c + 1 by omega), show kD ⟨14, [], 0, 0⟩ = 1 from rfl, if_neg (show ¬ (((ss ++ [([] : List Int)]).length : Nat) : Int) < 1 by simp; omega)]
  unfold t5
  simp only [if_true, aGL, aEg, List.nil_append]
  rfl
theorem aFg {o : aM} (h1 : o.Code ≠ 14) (h2 : o.Code ≠ 15) (h3 : o.Code ≠ 16) {st : List (List Int)} {c : Int} : eO N m h a o ⟨st, [⟨true, false⟩], c⟩ = (0, ⟨st, [⟨true, false⟩], c⟩) := by
  unfold eO
  rw [show j4 o [⟨true, false⟩] = false by simp [j4, h2, h3, nB]]
  simp [t5, h1, h2, h3]
theorem aI0 {st : List (List Int)} {c : Int} (hc : c ≤ 100) : eO N m h a ⟨15, [], 0, 0⟩ ⟨st, [⟨true, false⟩], c⟩ = (0, ⟨st, [⟨true, true⟩], c + 1⟩) := by
  unfold eO
  rw [show j4 ⟨15, [], 0, 0⟩ [⟨true, false⟩] = true from rfl, if_pos rfl, show iW ⟨15, [], 0, 0⟩ = 1 from rfl, if_neg (show ¬ 500 < c + 1 by omega), show kD ⟨15, [], 0, 0⟩ = 0 from rfl, if_neg (show ¬ ((st.length : Nat) : Int) < 0 by omega)]
  rfl
theorem aJN {st : List (List Int)} {c : Int} (hc : c ≤ 450) : eO N m h a ⟨16, [], 0, 0⟩ ⟨st, [⟨true, true⟩], c⟩ = (0, ⟨st, [], c + 1⟩) := by
  unfold eO
  rw [show j4 ⟨16, [], 0, 0⟩ [⟨true, true⟩] = true from rfl, if_pos rfl, show iW ⟨16, [], 0, 0⟩ = 1 from rfl, if_neg (show ¬ 500 < c + 1 by omega), show kD ⟨16, [], 0, 0⟩ = 0 from rfl, if_neg (show ¬ ((st.length : Nat) : Int) < 0 by omega)]
  rfl
theorem aFa {br : List aE} (hbr : nB br = ⟨true, true⟩) {st : List (List Int)} {d : List Int} {c : Int} (hc : c ≤ 100) : eO N m h a ⟨3, [], 0, 0⟩ ⟨st ++ [d], br, c⟩ = (0, ⟨st, br, c + 1⟩) := by
  unfold eO
  rw [show j4 ⟨3, [], 0, 0⟩ br = true by simp [j4, hbr], if_pos rfl, show iW ⟨3, [], 0, 0⟩ = 1 from rfl, if_neg (show ¬ 500 < c + 1 by omega), show kD ⟨3, [], 0, 0⟩ = 1 from rfl, if_neg (show ¬ (((st ++ [d]).length : Nat) : Int) < 1 by simp; omega)]
  have e : qE N m h a ⟨3, [], 0, 0⟩ (st ++ [d]) = (0, st) := by
    show (0, (st ++ [d]).take ((st ++ [d]).length - 1)) = _
    rw [aGL]
  simp [t5, e]
theorem aDZ {br : List aE} (hbr : nB br = ⟨true, true⟩) {st : List (List Int)} {d : List Int} {c : Int} (hc : c ≤ 100) : eO N m h a ⟨12, [], 0, 0⟩ ⟨st ++ [d], br, c⟩ = (qD N d h, ⟨st ++ [d], br, c + 1⟩) := by
  unfold eO
  rw [show j4 ⟨12, [], 0, 0⟩ br = true by simp [j4, hbr], if_pos rfl, show iW ⟨12, [], 0, 0⟩ = 1 from rfl, if_neg (show ¬ 500 < c + 1 by omega), show kD ⟨12, [], 0, 0⟩ = 1 from rfl, if_neg (show ¬ (((st ++ [d]).length : Nat) : Int) < 1 by simp; omega)]
  have e : qE N m h a ⟨12, [], 0, 0⟩ (st ++ [d]) = (qD N d h, st ++ [d]) := by
    show (qD N (jR (st ++ [d]) 1) h, _) = _
    rw [aEg]
  simp [t5, e]
theorem aIh {br : List aE} (hbr : nB br = ⟨true, true⟩) {st : List (List Int)} {d : List Int} {c : Int} (hc : c ≤ 100) : eO N m h a ⟨13, [], 0, 0⟩ ⟨st ++ [d], br, c⟩ = (qD N d a, ⟨st ++ [d], br, c + 1⟩) := by
  unfold eO
  rw [show j4 ⟨13, [], 0, 0⟩ br = true by simp [j4, hbr], if_pos rfl, show iW ⟨13, [], 0, 0⟩ = 1 from rfl, if_neg (show ¬ 500 < c + 1 by omega), show kD ⟨13, [], 0, 0⟩ = 1 from rfl, if_neg (show ¬ (((st ++ [d]).length : Nat) : Int) < 1 by simp; omega)]
  have e : qE N m h a ⟨13, [], 0, 0⟩ (st ++ [d]) = (qD N d a, st ++ [d]) := by
    show (qD N (jR (st ++ [d]) 1) a, _) = _
    rw [aEg]
  simp [t5, e]
end
end Go.Proofs.YtnoklhehodlkaaaGreatDoor
set_option linter.unusedSimpArgs false
set_option linter.unusedVariables false
set_option linter.unusedSectionVars false
namespace Go.Proofs.YtnoklhehodlkaaaGreatDoor
open Go Go.Vm
def mC (d : List Int) (c : Int) : List aM := [⟨1, d, 0, 0⟩, ⟨c, [], 0, 0⟩, ⟨3, [], 0, 0⟩]
def aAF (k : Nat) (ps : List Nat) : List aM := ps.map sJ ++ [⟨11, [], (k : Int), (ps.length : Int)⟩]
def rG (k p : Nat) (ps : List Nat) (d : List Int) : List aM :=
  [⟨14, [], 0, 0⟩] ++ (([⟨1, bM p, 0, 0⟩] ++ [⟨10, [], 0, 0⟩]) ++ ([⟨15, [], 0, 0⟩] ++ ((mC d 12 ++ (mC d 13 ++ aAF k ps)) ++ [⟨16, [], 0, 0⟩])))
def aCi (k p : Nat) (ps : List Nat) (d : List Int) : List Int :=
  [14] ++ ((gW (bM p) ++ [10]) ++ ([15] ++ ((gW d ++ ([12, 3] ++ (gW d ++ ([13, 3] ++ o6 k ps)))) ++ [16])))
theorem Pz.lock {d b : List Int} {l : List aM} {c : Int} (hc : c ∈ [3, 10, 12, 13, 14, 15, 16]) (hd : Byt d) (hl : d.length ≤ 2) (hp : Pz b l) (hbl : b.length ≤ 400) : Pz (gW d ++ ([c, 3] ++ b)) (mC d c ++ l) := by
  have h3 : Pz ([3] ++ b) ([⟨3, [], 0, 0⟩] ++ l) := (Pz.code (c := 3) (by simp)).app hp (by simp; omega)
  have h2 : Pz ([c] ++ ([3] ++ b)) ([⟨c, [], 0, 0⟩] ++ ([⟨3, [], 0, 0⟩] ++ l)) := (Pz.code hc).app h3 (by simp; omega)
  have h1 := (Pz.push hd (by omega)).app h2 (by rw [kX]; simp; omega)
  exact h1
theorem aA3 {k p : Nat} {ps : List Nat} {d : List Int} (h1 : 1 ≤ k) (h2 : k ≤ ps.length) (h3 : ps.length ≤ 3) (hd : Byt d) (hl : d.length ≤ 2) : Pz (aCi k p ps d) (rG k p ps d) := by
  have hm : Pz (o6 k ps) (aAF k ps) := Pz.multiS h1 h2 (by omega)
  have hml := aAV k ps
  have h13 := Pz.lock (c := 13) (by simp) hd hl hm (by omega)
  have l13 : (gW d ++ ([13, 3] ++ o6 k ps)).length ≤ 115 := by simp [kX, hml]; omega
  have h12 := Pz.lock (c := 12) (by simp) hd hl h13 (by omega)
  have l12 : (gW d ++ ([12, 3] ++ (gW d ++ ([13, 3] ++ o6 k ps)))).length ≤ 125 := by rw [List.length_append, List.length_append, kX]; simp only [List.length_cons, List.length_nil]; omega
  have h16 := h12.app (Pz.code (c := 16) (by simp)) (by simp only [List.length_cons, List.length_nil]; omega)
  have h15 := (Pz.code (c := 15) (by simp)).app h16 (by rw [List.length_append]; simp only [List.length_cons, List.length_nil]; omega)
  have hs : Pz (gW (bM p) ++ [10]) ([⟨1, bM p, 0, 0⟩] ++ [⟨10, [], 0, 0⟩]) := (Pz.push (pE p) (by rw [bF]; omega)).app (Pz.code (c := 10) (by simp)) (by rw [kX, bF]; decide)
  have ls : (gW (bM p) ++ [10]).length = 35 := by rw [List.length_append, kX, bF]; rfl
  have h14 := hs.app h15 (by rw [ls, List.length_append, List.length_append]; simp only [List.length_cons, List.length_nil]; omega)
  exact (Pz.code (c := 14) (by simp)).app h14 (by rw [List.length_append, ls, List.length_append, List.length_append]; simp only [List.length_cons, List.length_nil]; omega)
theorem aDw {d : List Int} {c : Int} (hc : c = 12 ∨ c = 13) : ∀ o ∈ mC d c, o.Code ≠ 14 ∧ o.Code ≠ 15 ∧ o.Code ≠ 16 := by
  intro o ho
  simp only [mC, List.mem_cons, List.not_mem_nil, or_false] at ho
  rcases ho with rfl | rfl | rfl
  · exact ⟨by show (1 : Int) ≠ 14; decide, by show (1 : Int) ≠ 15; decide, by show (1 : Int) ≠ 16; decide⟩
  · exact ⟨by show c ≠ 14; omega, by show c ≠ 15; omega, by show c ≠ 16; omega⟩
  · exact ⟨by show (3 : Int) ≠ 14; decide, by show (3 : Int) ≠ 15; decide, by show (3 : Int) ≠ 16; decide⟩
theorem aIJ {k : Nat} {ps : List Nat} : ∀ o ∈ aAF k ps, o.Code ≠ 14 ∧ o.Code ≠ 15 ∧ o.Code ≠ 16 := by
  intro o ho
  unfold aAF at ho
  rw [List.mem_append, List.mem_map, List.mem_singleton] at ho
  rcases ho with ⟨p, _, rfl⟩ | rfl
  · exact ⟨by show (1 : Int) ≠ 14; decide, by show (1 : Int) ≠ 15; decide, by show (1 : Int) ≠ 16; decide⟩
  · exact ⟨by show (11 : Int) ≠ 14; decide, by show (11 : Int) ≠ 15; decide, by show (11 : Int) ≠ 16; decide⟩
theorem aCM (k p : Nat) (ps : List Nat) (d : List Int) : fD (rG k p ps d) [] = some [] := by
  have hp : fD (mC d 12 ++ (mC d 13 ++ aAF k ps)) [true] = some [true] := aBd _ _ (fun o ho => by
    rw [List.mem_append, List.mem_append] at ho
    rcases ho with ho | ho | ho
    · exact aDw (.inl rfl) o ho
    · exact aDw (.inr rfl) o ho
    · exact aIJ o ho)
  unfold rG
  rw [pR, show fD [(⟨14, [], 0, 0⟩ : aM)] [] = some [false] from rfl, Option.bind_some, pR, show fD ([(⟨1, bM p, 0, 0⟩ : aM)] ++ [⟨10, [], 0, 0⟩]) [false] = some [false] from rfl, Option.bind_some, pR, show fD [(⟨15, [], 0, 0⟩ : aM)] [false] = some [true] from rfl, Option.bind_some, pR, hp, Option.bind_some]
  rfl
section
variable {N : Nat} {m : List Int} {h a : Int}
theorem aIt {br : List aE} (hbr : nB br = ⟨true, true⟩) {x : List aM} {ss : List (List Int)} {d : List Int} {c : Int} (hs : ss.length < 64) (hc : c ≤ 90) (h0 : qD N d h = 0) : cJ N m h a (mC d 12 ++ x) ⟨ss, br, c⟩ = cJ N m h a x ⟨ss, br, c + 1 + 1 + 1⟩ := by
  rw [show mC d 12 ++ x = ⟨1, d, 0, 0⟩ :: ⟨12, [], 0, 0⟩ :: ⟨3, [], 0, 0⟩ :: x from rfl]
  rw [cJ, aAc hbr hs (by omega), if_pos rfl]
  dsimp only
  rw [cJ, aDZ hbr (by omega), h0, if_pos rfl]
  dsimp only
  rw [cJ, aFa hbr (by omega), if_pos rfl]
theorem aIG {br : List aE} (hbr : nB br = ⟨true, true⟩) {x : List aM} {ss : List (List Int)} {d : List Int} {c : Int} (hs : ss.length < 64) (hc : c ≤ 90) (h0 : qD N d a = 0) : cJ N m h a (mC d 13 ++ x) ⟨ss, br, c⟩ = cJ N m h a x ⟨ss, br, c + 1 + 1 + 1⟩ := by
  rw [show mC d 13 ++ x = ⟨1, d, 0, 0⟩ :: ⟨13, [], 0, 0⟩ :: ⟨3, [], 0, 0⟩ :: x from rfl]
  rw [cJ, aAc hbr hs (by omega), if_pos rfl]
  dsimp only
  rw [cJ, aIh hbr (by omega), h0, if_pos rfl]
  dsimp only
  rw [cJ, aFa hbr (by omega), if_pos rfl]
theorem aJk {br : List aE} (hbr : nB br = ⟨true, true⟩) {x : List aM} {ss : List (List Int)} {d : List Int} {c : Int} (hs : ss.length < 64) (hc : c ≤ 90) (h0 : qD N d h = 85) : (cJ N m h a (mC d 12 ++ x) ⟨ss, br, c⟩).1 = 85 := by
  rw [show mC d 12 ++ x = ⟨1, d, 0, 0⟩ :: ⟨12, [], 0, 0⟩ :: ⟨3, [], 0, 0⟩ :: x from rfl]
  rw [cJ, aAc hbr hs (by omega), if_pos rfl]
  dsimp only
  rw [cJ, aDZ hbr (by omega), h0, if_neg (show ¬ (85 : Int) = 0 by decide)]
theorem aFb {p : Nat} {x : List aM} {ss : List (List Int)} : cJ N m h a ([⟨14, [], 0, 0⟩] ++ (([⟨1, bM p, 0, 0⟩] ++ [⟨10, [], 0, 0⟩]) ++ ([⟨15, [], 0, 0⟩] ++ x))) ⟨ss ++ [[]], [], 0⟩ = cJ N m h a x ⟨ss, [⟨true, true⟩], 2⟩ := by
  rw [show [(⟨14, [], 0, 0⟩ : aM)] ++ (([⟨1, bM p, 0, 0⟩] ++ [⟨10, [], 0, 0⟩]) ++ ([⟨15, [], 0, 0⟩] ++ x)) = ⟨14, [], 0, 0⟩ :: ⟨1, bM p, 0, 0⟩ :: ⟨10, [], 0, 0⟩ :: ⟨15, [], 0, 0⟩ :: x from rfl]
  rw [cJ, aMs (by omega), if_pos rfl]
  dsimp only
  rw [cJ, aFg (by show (1 : Int) ≠ 14; decide) (by show (1 : Int) ≠ 15; decide) (by show (1 : Int) ≠ 16; decide), if_pos rfl]
  dsimp only
  rw [cJ, aFg (by show (10 : Int) ≠ 14; decide) (by show (10 : Int) ≠ 15; decide) (by show (10 : Int) ≠ 16; decide), if_pos rfl]
  dsimp only
  rw [cJ, aI0 (by omega), if_pos rfl]
  rfl
theorem aH3 {k p : Nat} {ps : List Nat} {ss : List (List Int)} {d : List Int} (h1 : 1 ≤ k) (h2 : k ≤ ps.length) (hl : ps.length = ss.length) (h3 : ps.length ≤ 3) (hd : Byt d) (hdl : d.length ≤ 2) (hbd : mD (ss ++ [[]]) = true) (hv : ∀ q ∈ (ps.map bM).zip ss, pO N m q.1 q.2 = 0) (hk : k ≤ s9 ss)
    (hh : qD N d h = 0) (ha : qD N d a = 0) : aBC (oQ N (aCi k p ps d) (ss ++ [[]]) m h a) = 0 := by
  have hbr : nB [(⟨true, true⟩ : aE)] = ⟨true, true⟩ := rfl
  have hr : cJ N m h a (rG k p ps d) ⟨ss ++ [[]], [], 0⟩ = (0, ⟨[sP (decide ((k : Int) ≤ (s9 ss : Nat)))], [], 8 + (ps.length : Int) + (1 + 20 * (ps.length : Int)) + 1⟩) := by
    unfold rG
    rw [aFb, List.append_assoc, aIt hbr (by omega) (by omega) hh, List.append_assoc, aIG hbr (by omega) (by omega) ha]
    have hm := aEY (N := N) (m := m) (h := h) (a := a) hbr (k := k) (ps := ps) (ss := ss) (c := 2 + 1 + 1 + 1 + 1 + 1 + 1) hl (by omega) (by omega) hv
    have hm' : cJ N m h a (aAF k ps) ⟨ss, [⟨true, true⟩], 2 + 1 + 1 + 1 + 1 + 1 + 1⟩ = _ := hm
    rw [aEJ _ _ _ (by rw [hm']), hm']
    dsimp only
    rw [cJ, aJN (by omega), if_pos rfl]
    rfl
  rw [aJl (aA3 h1 h2 h3 hd hdl) (aCM k p ps d) hbd hr, aEc, decide_eq_true (by omega : (k : Int) ≤ (s9 ss : Nat))]
  rfl
theorem aIO {k p : Nat} {ps : List Nat} {ss : List (List Int)} {d : List Int} (h1 : 1 ≤ k) (h2 : k ≤ ps.length) (hl : ps.length = ss.length) (h3 : ps.length ≤ 3) (hd : Byt d) (hdl : d.length ≤ 2) (hbd : mD (ss ++ [[]]) = true)
    (hh : qD N d h = 85) : aBC (oQ N (aCi k p ps d) (ss ++ [[]]) m h a) = 85 := by
  have hbr : nB [(⟨true, true⟩ : aE)] = ⟨true, true⟩ := rfl
  have hr : (cJ N m h a (rG k p ps d) ⟨ss ++ [[]], [], 0⟩).1 = 85 := by
    unfold rG
    rw [aFb, List.append_assoc]
    exact aJk hbr (by omega) (by omega) hh
  rw [aLM (aA3 h1 h2 h3 hd hdl) (aCM k p ps d) hbd (by rw [hr]; decide), hr]
end
end Go.Proofs.YtnoklhehodlkaaaGreatDoor
set_option linter.unusedSimpArgs false
set_option linter.unusedVariables false
set_option linter.unusedSectionVars false
namespace Go.Proofs.YtnoklhehodlkaaaGreatDoor
open Go Go.Vm
structure SI (N : Nat) (m : List Int) (ps : List Nat) (ss : List (List Int)) : Prop where
  len : ps.length = ss.length
  ver : ∀ q ∈ (ps.map bM).zip ss, pO N m q.1 q.2 = 0
  byt : ∀ s ∈ ss, Byt s ∧ s.length ≤ 64
theorem SI.nil {N : Nat} {m : List Int} : SI N m [] [] := ⟨rfl, (by intro q hq; cases hq), (by intro q hq; cases hq)⟩
theorem SI.snoc {N : Nat} {m : List Int} {ps : List Nat} {ss : List (List Int)} (h : SI N m ps ss) {p : Nat} {s : List Int} (hv : pO N m (bM p) s = 0) (hb : Byt s) (hl : s.length ≤ 64) : SI N m (ps ++ [p]) (ss ++ [s]) := by
  refine ⟨by simp [h.len], fun q hq => ?_, fun x hx => ?_⟩
  · rw [List.map_append, List.zip_append (by simpa using h.len)] at hq
    rcases List.mem_append.1 hq with hq | hq
    · exact h.ver q hq
    · simp at hq
      subst hq
      exact hv
  · rcases List.mem_append.1 hx with hx | hx
    · exact h.byt x hx
    · rw [List.mem_singleton] at hx
      subst hx
      exact ⟨hb, hl⟩
theorem aNM (ps : List Nat) : aFT 4 (ps.map U) = some (ps.map U) := by
  unfold aFT
  rw [if_pos]
  rw [List.all_eq_true]
  intro x hx
  rw [List.mem_map] at hx
  obtain ⟨p, _, rfl⟩ := hx
  rfl
section
variable {N : Nat} (hN : 70000 ≤ N) {m : List Int} (hm : m.length = 32) (hb : Byt m)
include hN hm hb
theorem aCc {dS : List Int} (hs : Byt dS) {vm : Nat} (hvm : vm < 256) (lock : Int) : ∀ (f i : Nat) (ps : List Nat) (ss : List (List Int)), 4 ≤ f + i → i ≤ 3 → ps.length = i → SI N m ps ss →
    ∃ ps' ss', cH N dS (vm : Int) m lock f (i : Int) (ps.map U) ss = some (ps'.map U, ss') ∧ SI N m ps' ss' ∧ ps'.length ≤ 3
  | 0, i, ps, ss, hf, hi, _, _ => by omega
  | f + 1, i, ps, ss, hf, hi, hp, H => by
    have hend : ∃ ps' ss', some (ps.map U, ss) = some (ps'.map U, ss') ∧ SI N m ps' ss' ∧ ps'.length ≤ 3 := ⟨ps, ss, rfl, H, by omega⟩
    rw [cH]
    by_cases h1 : i < dS.length
    · rw [dT h1, if_pos rfl]
      by_cases h2 : i < 3
      · obtain ⟨n, hn, hse⟩ := hs.get h1
        rw [show decide ((i : Int) < 3) = true from decide_eq_true (by omega)]
        unfold iZ
        rw [if_pos rfl, eY dS h1, Option.bind_some, hse, show IntKind.u8.wrap ((n : Int) + 1) = (((n + 1) % 256 : Nat) : Int) by rw [IntKind.wrap_u8]; omega]
        have hv : (n + 1) % 256 < 256 := Nat.mod_lt _ (by decide)
        generalize (n + 1) % 256 = v at hv
        have hnum := aNz hv
        have hbyt : Byt [0, 0, 0, 1, 0, 0, 0, 0, 0, 0, 0, 0, 0, 0, 0, 0, 0, 0, 0, 0, 0, 0, 0, 0, 0, 0, 0, 0, 0, 0, 0, (v : Int)] := by
          intro x hx
          simp only [List.mem_cons, List.not_mem_nil, or_false] at hx
          omega
        have hsc := aCd hN (aA1 [0, 0, 0, 1, 0, 0, 0, 0, 0, 0, 0, 0, 0, 0, 0, 0, 0, 0, 0, 0, 0, 0, 0, 0, 0, 0, 0, 0, 0, 0, 0, (v : Int)])
        rw [aAd rfl hbyt, hnum] at hsc
        have hx : aC4 + v < gQ := Nat.lt_trans (Nat.add_lt_add_left hv _) (by decide +kernel)
        rw [Nat.mod_eq_of_lt hx] at hsc
        have h0 : aC4 + v ≠ 0 := by
          have : 0 < aC4 := by decide +kernel
          omega
        have hk := aNv hv
        rw [hsc]
        generalize aC4 + v = x at *
        have hpub := aFl hN h0 hx
        obtain ⟨k, c, hkq, hc, hsg⟩ := aMl hN h0 hx hm hb
        have hgood := aKt hN hkq hk hm hb
        rw [← hc] at hgood
        have hemp := aI2 hN hk m
        rw [Option.bind_some, aX, Option.bind_some, hpub, Option.bind_some, aX, Option.bind_some, cZ hm, Option.bind_some, hsg, Option.bind_some]
        have hps : app 32 (ps.map U) [U (4 ^ x % 115792089237316195423570985008687907853269984665640564039457584007913129603823)] = some ((ps ++ [4 ^ x % gP]).map U) := by
          rw [uT (by have := lO; simp; omega), List.map_append]; rfl
        rw [hps, Option.bind_some, sH (k := .u8) vm i hvm, Option.bind_some]
        have hlen := H.len
        split
        · rw [aI6 hN, Option.bind_some, aBi (by simp; omega), Option.bind_some]
          unfold fZ
          rw [i1 (by omega)]
          exact aCc hs hvm lock f (i + 1) _ _ (by omega) (by omega) (by simp [hp]) (H.snoc hgood ((pE _).append (pE _)) (by simp [bF]))
        · rw [aBi (by simp; omega), Option.bind_some]
          unfold fZ
          rw [i1 (by omega)]
          exact aCc hs hvm lock f (i + 1) _ _ (by omega) (by omega) (by simp [hp]) (H.snoc hemp (by intro x hx; cases hx) (by simp))
      · rw [show decide ((i : Int) < 3) = false from decide_eq_false (by omega)]
        exact hend
    · rw [dF h1]
      exact hend
omit hN hm hb in
theorem aA7 (msg : List Int) (lock : Int) (l1 l2 : List (List Int)) (hl : l2.length ≤ 1000) : ∀ (f j n : Nat), l2.length - j < f → j ≤ l2.length → n ≤ j → cR N msg lock l1 l2 f (n : Int) (j : Int) = some ((n + s9 (l2.drop j) : Nat) : Int)
  | 0, j, n, hf, _, _ => by omega
  | f + 1, j, n, hf, hj, hn => by
    rw [cR]
    by_cases h : j < l2.length
    · rw [dT h, if_pos rfl, eY l2 h, Option.bind_some, List.drop_eq_getElem_cons h]
      unfold i7 s9
      by_cases hp : decide (0 < (l2[j].length : Int)) = true
      · rw [if_pos hp, i1 (by omega), i1 (by omega), List.filter_cons_of_pos (p := fun x : List Int => decide (0 < (x.length : Int))) hp, List.length_cons, aA7 msg lock l1 l2 hl f (j + 1) (n + 1) (by omega) (by omega) (by omega)]
        unfold s9
        congr 2
        omega
      · rw [if_neg hp, i1 (by omega), List.filter_cons_of_neg (p := fun x : List Int => decide (0 < (x.length : Int))) hp, aA7 msg lock l1 l2 hl f (j + 1) n (by omega) (by omega) (by omega)]
        rfl
    · rw [dF h, List.drop_eq_nil_of_le (by omega)]
      simp [s9]
omit hN hm hb in
theorem aMY (l : List (List Int)) : s9 l ≤ l.length := List.length_filter_le _ _
omit hN hm hb in
theorem aGj {ss : List (List Int)} (hl : ss.length ≤ 10) (hs : ∀ s ∈ ss, Byt s ∧ s.length ≤ 64) : mD ss = true := by
  unfold mD
  rw [decide_eq_false (by omega), List.all_eq_true.2 (fun x hx => by
    have := (hs x hx).2
    rw [decide_eq_false (by omega)]; rfl)]
  rfl
omit hm hb in
theorem aKS {n : Nat} {d : List Int} (hd : aAm N d = ((n : Int), 0)) (hn : n < 65536) : qD N d (n : Int) = 0 ∧ qD N d ((n : Int) - 1) = 85 := by
  unfold qD
  rw [hd]
  have hw : IntKind.i64.wrap (n : Int) = n := cC (by omega) (by omega)
  simp only [hw]
  refine ⟨?_, ?_⟩
  · rw [if_neg (by decide), decide_eq_false (by omega)]; rfl
  · rw [if_neg (by decide), decide_eq_true (by omega)]; rfl
theorem aId {dS : List Int} (hs : Byt dS) {vm lock : Nat} (hvm : vm < 256) (hlock : lock < 65536) (hsane : vK N = some true) : i4 N dS (vm : Int) m (lock : Int) = some true := by
  obtain ⟨ps, ss, hloop, H, h3⟩ := aCc hN hm hb hs hvm (lock : Int) N 0 [] [] (by omega) (by omega) rfl SI.nil
  have hlen := H.len
  have hcnt := aA7 (N := N) m (lock : Int) (ps.map U) ss (by omega) N 0 0 (by omega) (by omega) (by omega)
  rw [List.drop_zero, Nat.zero_add] at hcnt
  have hcle := aMY ss
  have hbd := aGj (ss := ss) (by omega) H.byt
  have hbd' : mD (ss ++ [[]]) = true := aGj (by simp; omega) (fun s hs => by
    rcases List.mem_append.1 hs with hs | hs
    · exact H.byt s hs
    · rw [List.mem_singleton] at hs
      subst hs
      exact ⟨(by intro x hx; cases hx), by simp⟩)
  have hst : ∀ x ∈ ss, Byt x := fun x hx => (H.byt x hx).1
  have hst' : ∀ x ∈ ss ++ [[]], Byt x := fun x hx => by
    rcases List.mem_append.1 hx with hx | hx
    · exact hst x hx
    · rw [List.mem_singleton] at hx
      subst hx
      intro y hy; cases hy
  unfold i4
  rw [hsane, Option.bind_some]
  simp only [Bool.not_true, Bool.false_eq_true, if_false]
  rw [show cH N dS (vm : Int) m (lock : Int) N 0 [] [] = _ from hloop, Option.bind_some]
  unfold lC
  dsimp only
  by_cases h0 : ps.length = 0
  · rw [if_pos (by rw [List.length_map, h0]; rfl)]
  rw [if_neg (show ¬ (((ps.map U).length : Int) == 0) = true by rw [List.length_map]; exact fun h => h0 (by simpa using h)), show cR N m (lock : Int) (ps.map U) ss N 0 0 = _ from hcnt, Option.bind_some]
  generalize hc : s9 ss = cnt at *
  obtain ⟨k, hk⟩ : ∃ k, k = max 1 cnt := ⟨_, rfl⟩
  have hkk : (if (cnt : Int) > 1 then (cnt : Int) else 1) = (k : Int) := by
    split <;> omega
  have h1 : 1 ≤ k := by omega
  have h2 : k ≤ ps.length := by omega
  have hlw : IntKind.i64.wrap (lock : Int) = lock := cC (by omega) (by omega)
  have hlu : IntKind.u32.wrap (lock : Int) = lock := by rw [IntKind.wrap_u32]; omega
  have hle : IntKind.i64.wrap ((lock : Int) - 1) = (lock : Int) - 1 := cC (by omega) (by omega)
  unfold lI
  rw [cZ hm, Option.bind_some, aNM, Option.bind_some, hkk, aMk hN h1 h2 (by omega), Option.bind_some]
  simp only [show ((0 : Int) != 0) = false from rfl, Bool.false_eq_true, if_false]
  have hsat := aI9 (N := N) (m := m) (h := (lock : Int)) (a := (lock : Int)) (k := k) (ps := ps) (ss := ss) h1 h2 hlen (by omega) hbd H.ver
  rw [hlw, aG4 hN hm hb (Pz.multiS h1 h2 (by omega)).byt hst, hsat, Option.bind_some, hc]
  have hx : (((if k ≤ cnt then (0 : Int) else 84) == 0) != decide (0 < (cnt : Int))) = false := by
    by_cases hz : 0 < cnt
    · rw [if_pos (by omega), decide_eq_true (by omega)]; rfl
    · rw [if_neg (by omega), decide_eq_false (by omega)]; rfl
  rw [hx]
  unfold i8
  simp only [Bool.false_eq_true, if_false]
  obtain ⟨d, hi, hdl, hdb, hdn⟩ := aNp hN hlock
  have hml := aAV k ps
  obtain ⟨p, ps', rfl⟩ : ∃ p ps', ps = p :: ps' := by
    cases ps with
    | nil => simp at h0
    | cons p ps' => exact ⟨p, ps', rfl⟩
  have h3' : ps'.length ≤ 2 := by simp only [List.length_cons] at h3; omega
  rw [hlu, aME hN hi (by omega) (by omega), Option.bind_some, aMA hN hi (by omega) (by simp [kX, hml]; omega), Option.bind_some, List.map_cons, aC7, Option.bind_some, aX, Option.bind_some, aKz hN, Option.bind_some, aJS hN (by simp [kX, bF]) (by simp [kX, hml]; omega), Option.bind_some]
  by_cases hz : cnt = 0
  · rw [if_pos (by rw [hz]; rfl)]
    rfl
  · rw [if_neg (by simp; omega), aBi (by simp; omega), Option.bind_some, List.nil_append, aBi (by simp; omega), Option.bind_some, hlw, hle]
    obtain ⟨g1, g2⟩ := aKS hN hdn hlock
    have hpz := aA3 (p := p) h1 h2 h3 hdb hdl
    have hok := aH3 (N := N) (m := m) (h := (lock : Int)) (a := (lock : Int)) (p := p) h1 h2 hlen h3 hdb hdl hbd' H.ver (by omega) g1 g1
    have hno := aIO (N := N) (m := m) (h := (lock : Int) - 1) (a := (lock : Int)) (p := p) h1 h2 hlen h3 hdb hdl hbd' g2
    have he : ∀ x : List Int, [14] ++ ((gW (bM p) ++ [10]) ++ ([15] ++ ((gW d ++ ([12, 3] ++ (gW d ++ ([13, 3] ++ o6 k (p :: ps'))))) ++ [16]))) = aCi k p (p :: ps') d := fun _ => rfl
    rw [he [], aG4 hN hm hb hpz.byt hst', hok, Option.bind_some]
    simp only [show ((0 : Int) == 0) = true from rfl, if_true]
    rw [aG4 hN hm hb hpz.byt hst', hno, Option.bind_some]
    rfl
end
def NN : Nat := 70000
theorem aJF : vK NN = some true := by decide +kernel
theorem aCC (dS : List Int) (vm : Int) (m : List Int) (lock : Int) (hs : Byt dS) (hv : 0 ≤ vm ∧ vm < 256) (hm : m.length = 32) (hmb : Byt m) (hl : 0 ≤ lock ∧ lock < 65536) : i4 NN dS vm m lock = some true := by
  have := aId (N := NN) (Nat.le_refl _) hm hmb hs (vm := vm.toNat) (lock := lock.toNat) (by omega) (by omega) aJF
  rwa [Int.toNat_of_nonneg hv.1, Int.toNat_of_nonneg hl.1] at this
end Go.Proofs.YtnoklhehodlkaaaGreatDoor
namespace Go.Proofs.YtnoklhehodlkaaaGreatDoor
open Go Go.Vm
theorem mixed : Tryz.prog.follows .mixedOrders = true := by kernel_rfl
theorem dep : 2 ≤ Tryz.prog.depth := Nat.le_of_ble_eq_true (by kernel_rfl)
instance : DepC Tryz.prog := ⟨dep⟩
instance : TiC Tryz.prog 2 ⟨.int .i64, 1, 8, .int .i64 0⟩ := ⟨ti2⟩
instance : NoA Tryz.prog 2 := ⟨trivial⟩
instance : TiC Tryz.prog 3 ⟨.int .i64, 1, 8, .int .i64 0⟩ := ⟨gX⟩
instance : NoA Tryz.prog 3 := ⟨trivial⟩
instance : TiC Tryz.prog 4 ⟨.bool, 1, 1, .bool false⟩ := ⟨ti4⟩
instance : NoA Tryz.prog 4 := ⟨trivial⟩
instance : TiC Tryz.prog 5 ⟨.int .u8, 1, 1, .int .u8 0⟩ := ⟨jC⟩
instance : NoA Tryz.prog 5 := ⟨trivial⟩
instance : TiC Tryz.prog 9 ⟨.string, 1, 16, .string .empty⟩ := ⟨ti9⟩
instance : NoA Tryz.prog 9 := ⟨trivial⟩
instance : TiC Tryz.prog 12 ⟨.int .u64, 1, 8, .int .u64 0⟩ := ⟨aPf⟩
instance : NoA Tryz.prog 12 := ⟨trivial⟩
instance : TiC Tryz.prog 21 ⟨.int .i32, 1, 4, .int .i32 0⟩ := ⟨aPn⟩
instance : NoA Tryz.prog 21 := ⟨trivial⟩
instance : TiC Tryz.prog 22 ⟨.slice 5, 1, 24, .slice none 0 0⟩ := ⟨bH⟩
instance : NoA Tryz.prog 22 := ⟨trivial⟩
instance : TiC Tryz.prog 23 ⟨.array 32 5, 32, 32, .agg #[.int .u8 0, .int .u8 0, .int .u8 0, .int .u8 0, .int .u8 0, .int .u8 0, .int .u8 0, .int .u8 0, .int .u8 0, .int .u8 0, .int .u8 0, .int .u8 0, .int .u8 0, .int .u8 0, .int .u8 0, .int .u8 0, .int .u8 0, .int .u8 0, .int .u8 0, .int .u8 0, .int .u8 0, .int .u8 0, .int .u8 0, .int .u8 0, .int .u8 0, .int .u8 0, .int .u8 0, .int .u8 0, .int .u8 0, .int .u8 0, .int .u8 0, .int .u8 0]⟩ := ⟨aOS⟩
instance : TiC Tryz.prog 24 ⟨.array 32 5, 32, 32, .agg #[.int .u8 0, .int .u8 0, .int .u8 0, .int .u8 0, .int .u8 0, .int .u8 0, .int .u8 0, .int .u8 0, .int .u8 0, .int .u8 0, .int .u8 0, .int .u8 0, .int .u8 0, .int .u8 0, .int .u8 0, .int .u8 0, .int .u8 0, .int .u8 0, .int .u8 0, .int .u8 0, .int .u8 0, .int .u8 0, .int .u8 0, .int .u8 0, .int .u8 0, .int .u8 0, .int .u8 0, .int .u8 0, .int .u8 0, .int .u8 0, .int .u8 0, .int .u8 0]⟩ := ⟨s8⟩
instance : TiC Tryz.prog 25 ⟨.int .u16, 1, 2, .int .u16 0⟩ := ⟨aO7⟩
instance : NoA Tryz.prog 25 := ⟨trivial⟩
instance : TiC Tryz.prog 27 ⟨.slice 31, 1, 24, .slice none 0 0⟩ := ⟨aNy⟩
instance : NoA Tryz.prog 27 := ⟨trivial⟩
instance : TiC Tryz.prog 28 ⟨.slice 22, 1, 24, .slice none 0 0⟩ := ⟨cP⟩
instance : NoA Tryz.prog 28 := ⟨trivial⟩
instance : TiC Tryz.prog 29 ⟨.int .u64, 1, 8, .int .u64 0⟩ := ⟨jL⟩
instance : NoA Tryz.prog 29 := ⟨trivial⟩
instance : TiC Tryz.prog 30 ⟨.array 4 29, 4, 32, .agg #[.int .u64 0, .int .u64 0, .int .u64 0, .int .u64 0]⟩ := ⟨aPQ⟩
instance : TiC Tryz.prog 31 ⟨.array 4 29, 4, 32, .agg #[.int .u64 0, .int .u64 0, .int .u64 0, .int .u64 0]⟩ := ⟨bE⟩
instance : TiC Tryz.prog 33 ⟨.int .i64, 1, 8, .int .i64 0⟩ := ⟨aPw⟩
instance : NoA Tryz.prog 33 := ⟨trivial⟩
instance : TiC Tryz.prog 36 ⟨.struct #[{ name := "E", type := 31, offset := 0, embedded := false, tag := "", pkgPath := "", byteOffset := 0 }, { name := "S", type := 31, offset := 4, embedded := false, tag := "", pkgPath := "", byteOffset := 32 }], 8, 64, .agg #[.int .u64 0, .int .u64 0, .int .u64 0, .int .u64 0, .int .u64 0, .int .u64 0, .int .u64 0, .int .u64 0]⟩ := ⟨aPu⟩
instance : TiC Tryz.prog 37 ⟨.struct #[{ name := "E", type := 31, offset := 0, embedded := false, tag := "", pkgPath := "", byteOffset := 0 }, { name := "S", type := 31, offset := 4, embedded := false, tag := "", pkgPath := "", byteOffset := 32 }], 8, 64, .agg #[.int .u64 0, .int .u64 0, .int .u64 0, .int .u64 0, .int .u64 0, .int .u64 0, .int .u64 0, .int .u64 0]⟩ := ⟨uD⟩
instance : TiC Tryz.prog 41 ⟨.struct #[{ name := "Message", type := 24, offset := 0, embedded := false, tag := "", pkgPath := "", byteOffset := 0 }, { name := "Height", type := 3, offset := 32, embedded := false, tag := "", pkgPath := "", byteOffset := 32 }, { name := "Age", type := 3, offset := 33, embedded := false, tag := "", pkgPath := "", byteOffset := 40 }], 34, 48, .agg #[.int .u8 0, .int .u8 0, .int .u8 0, .int .u8 0, .int .u8 0, .int .u8 0, .int .u8 0, .int .u8 0, .int .u8 0, .int .u8 0, .int .u8 0, .int .u8 0, .int .u8 0, .int .u8 0, .int .u8 0, .int .u8 0, .int .u8 0, .int .u8 0, .int .u8 0, .int .u8 0, .int .u8 0, .int .u8 0, .int .u8 0, .int .u8 0, .int .u8 0, .int .u8 0, .int .u8 0, .int .u8 0, .int .u8 0, .int .u8 0, .int .u8 0, .int .u8 0, .int .i64 0, .int .i64 0]⟩ := ⟨aOY⟩
instance : TiC Tryz.prog 42 ⟨.struct #[{ name := "Message", type := 24, offset := 0, embedded := false, tag := "", pkgPath := "", byteOffset := 0 }, { name := "Height", type := 3, offset := 32, embedded := false, tag := "", pkgPath := "", byteOffset := 32 }, { name := "Age", type := 3, offset := 33, embedded := false, tag := "", pkgPath := "", byteOffset := 40 }], 34, 48, .agg #[.int .u8 0, .int .u8 0, .int .u8 0, .int .u8 0, .int .u8 0, .int .u8 0, .int .u8 0, .int .u8 0, .int .u8 0, .int .u8 0, .int .u8 0, .int .u8 0, .int .u8 0, .int .u8 0, .int .u8 0, .int .u8 0, .int .u8 0, .int .u8 0, .int .u8 0, .int .u8 0, .int .u8 0, .int .u8 0, .int .u8 0, .int .u8 0, .int .u8 0, .int .u8 0, .int .u8 0, .int .u8 0, .int .u8 0, .int .u8 0, .int .u8 0, .int .u8 0, .int .i64 0, .int .i64 0]⟩ := ⟨jQ⟩
instance : TiC Tryz.prog 47 ⟨.int .u32, 1, 4, .int .u32 0⟩ := ⟨tA⟩
instance : NoA Tryz.prog 47 := ⟨trivial⟩
instance : TiC Tryz.prog 51 ⟨.slice 90, 1, 24, .slice none 0 0⟩ := ⟨aKc⟩
instance : NoA Tryz.prog 51 := ⟨trivial⟩
instance : TiC Tryz.prog 52 ⟨.slice 57, 1, 24, .slice none 0 0⟩ := ⟨aKG⟩
instance : NoA Tryz.prog 52 := ⟨trivial⟩
instance : TiC Tryz.prog 53 ⟨.struct #[{ name := "Version", type := 47, offset := 0, embedded := false, tag := "", pkgPath := "", byteOffset := 0 }, { name := "Inputs", type := 51, offset := 1, embedded := false, tag := "", pkgPath := "", byteOffset := 8 }, { name := "Outputs", type := 52, offset := 2, embedded := false, tag := "", pkgPath := "", byteOffset := 32 }, { name := "Lock", type := 47, offset := 3, embedded := false, tag := "", pkgPath := "", byteOffset := 56 }], 4, 64, .agg #[.int .u32 0, .slice none 0 0, .slice none 0 0, .int .u32 0]⟩ := ⟨aO6⟩
instance : NoA Tryz.prog 53 := ⟨trivial⟩
instance : TiC Tryz.prog 54 ⟨.struct #[{ name := "Version", type := 47, offset := 0, embedded := false, tag := "", pkgPath := "", byteOffset := 0 }, { name := "Inputs", type := 51, offset := 1, embedded := false, tag := "", pkgPath := "", byteOffset := 8 }, { name := "Outputs", type := 52, offset := 2, embedded := false, tag := "", pkgPath := "", byteOffset := 32 }, { name := "Lock", type := 47, offset := 3, embedded := false, tag := "", pkgPath := "", byteOffset := 56 }], 4, 64, .agg #[.int .u32 0, .slice none 0 0, .slice none 0 0, .int .u32 0]⟩ := ⟨aAS⟩
instance : NoA Tryz.prog 54 := ⟨trivial⟩
instance : TiC Tryz.prog 56 ⟨.struct #[{ name := "Value", type := 2, offset := 0, embedded := false, tag := "", pkgPath := "", byteOffset := 0 }, { name := "Script", type := 22, offset := 1, embedded := false, tag := "", pkgPath := "", byteOffset := 8 }], 2, 32, .agg #[.int .i64 0, .slice none 0 0]⟩ := ⟨aPJ⟩
instance : NoA Tryz.prog 56 := ⟨trivial⟩
instance : TiC Tryz.prog 57 ⟨.struct #[{ name := "Value", type := 2, offset := 0, embedded := false, tag := "", pkgPath := "", byteOffset := 0 }, { name := "Script", type := 22, offset := 1, embedded := false, tag := "", pkgPath := "", byteOffset := 8 }], 2, 32, .agg #[.int .i64 0, .slice none 0 0]⟩ := ⟨aDb⟩
instance : NoA Tryz.prog 57 := ⟨trivial⟩
instance : TiC Tryz.prog 58 ⟨.slice 68, 1, 24, .slice none 0 0⟩ := ⟨aPT⟩
instance : NoA Tryz.prog 58 := ⟨trivial⟩
instance : TiC Tryz.prog 65 ⟨.struct #[{ name := "Tx", type := 24, offset := 0, embedded := false, tag := "", pkgPath := "", byteOffset := 0 }, { name := "Index", type := 47, offset := 32, embedded := false, tag := "", pkgPath := "", byteOffset := 32 }], 33, 36, .agg #[.int .u8 0, .int .u8 0, .int .u8 0, .int .u8 0, .int .u8 0, .int .u8 0, .int .u8 0, .int .u8 0, .int .u8 0, .int .u8 0, .int .u8 0, .int .u8 0, .int .u8 0, .int .u8 0, .int .u8 0, .int .u8 0, .int .u8 0, .int .u8 0, .int .u8 0, .int .u8 0, .int .u8 0, .int .u8 0, .int .u8 0, .int .u8 0, .int .u8 0, .int .u8 0, .int .u8 0, .int .u8 0, .int .u8 0, .int .u8 0, .int .u8 0, .int .u8 0, .int .u32 0]⟩ := ⟨aPz⟩
instance : TiC Tryz.prog 66 ⟨.struct #[{ name := "Tx", type := 24, offset := 0, embedded := false, tag := "", pkgPath := "", byteOffset := 0 }, { name := "Index", type := 47, offset := 32, embedded := false, tag := "", pkgPath := "", byteOffset := 32 }], 33, 36, .agg #[.int .u8 0, .int .u8 0, .int .u8 0, .int .u8 0, .int .u8 0, .int .u8 0, .int .u8 0, .int .u8 0, .int .u8 0, .int .u8 0, .int .u8 0, .int .u8 0, .int .u8 0, .int .u8 0, .int .u8 0, .int .u8 0, .int .u8 0, .int .u8 0, .int .u8 0, .int .u8 0, .int .u8 0, .int .u8 0, .int .u8 0, .int .u8 0, .int .u8 0, .int .u8 0, .int .u8 0, .int .u8 0, .int .u8 0, .int .u8 0, .int .u8 0, .int .u8 0, .int .u32 0]⟩ := ⟨aAO⟩
instance : TiC Tryz.prog 67 ⟨.struct #[{ name := "Out", type := 66, offset := 0, embedded := false, tag := "", pkgPath := "", byteOffset := 0 }, { name := "Output", type := 57, offset := 33, embedded := false, tag := "", pkgPath := "", byteOffset := 40 }, { name := "Height", type := 3, offset := 35, embedded := false, tag := "", pkgPath := "", byteOffset := 72 }, { name := "Coinbase", type := 4, offset := 36, embedded := false, tag := "", pkgPath := "", byteOffset := 80 }], 37, 88, .agg #[.int .u8 0, .int .u8 0, .int .u8 0, .int .u8 0, .int .u8 0, .int .u8 0, .int .u8 0, .int .u8 0, .int .u8 0, .int .u8 0, .int .u8 0, .int .u8 0, .int .u8 0, .int .u8 0, .int .u8 0, .int .u8 0, .int .u8 0, .int .u8 0, .int .u8 0, .int .u8 0, .int .u8 0, .int .u8 0, .int .u8 0, .int .u8 0, .int .u8 0, .int .u8 0, .int .u8 0, .int .u8 0, .int .u8 0, .int .u8 0, .int .u8 0, .int .u8 0, .int .u32 0, .int .i64 0, .slice none 0 0, .int .i64 0, .bool false]⟩ := ⟨aO8⟩
instance : TiC Tryz.prog 68 ⟨.struct #[{ name := "Out", type := 66, offset := 0, embedded := false, tag := "", pkgPath := "", byteOffset := 0 }, { name := "Output", type := 57, offset := 33, embedded := false, tag := "", pkgPath := "", byteOffset := 40 }, { name := "Height", type := 3, offset := 35, embedded := false, tag := "", pkgPath := "", byteOffset := 72 }, { name := "Coinbase", type := 4, offset := 36, embedded := false, tag := "", pkgPath := "", byteOffset := 80 }], 37, 88, .agg #[.int .u8 0, .int .u8 0, .int .u8 0, .int .u8 0, .int .u8 0, .int .u8 0, .int .u8 0, .int .u8 0, .int .u8 0, .int .u8 0, .int .u8 0, .int .u8 0, .int .u8 0, .int .u8 0, .int .u8 0, .int .u8 0, .int .u8 0, .int .u8 0, .int .u8 0, .int .u8 0, .int .u8 0, .int .u8 0, .int .u8 0, .int .u8 0, .int .u8 0, .int .u8 0, .int .u8 0, .int .u8 0, .int .u8 0, .int .u8 0, .int .u8 0, .int .u8 0, .int .u32 0, .int .i64 0, .slice none 0 0, .int .i64 0, .bool false]⟩ := ⟨aDa⟩
instance : TiC Tryz.prog 82 ⟨.slice 85, 1, 24, .slice none 0 0⟩ := ⟨aIw⟩
instance : NoA Tryz.prog 82 := ⟨trivial⟩
instance : TiC Tryz.prog 84 ⟨.struct #[{ name := "Code", type := 3, offset := 0, embedded := false, tag := "", pkgPath := "", byteOffset := 0 }, { name := "Data", type := 22, offset := 1, embedded := false, tag := "", pkgPath := "", byteOffset := 8 }, { name := "M", type := 3, offset := 2, embedded := false, tag := "", pkgPath := "", byteOffset := 32 }, { name := "N", type := 3, offset := 3, embedded := false, tag := "", pkgPath := "", byteOffset := 40 }], 4, 48, .agg #[.int .i64 0, .slice none 0 0, .int .i64 0, .int .i64 0]⟩ := ⟨aPI⟩
instance : NoA Tryz.prog 84 := ⟨trivial⟩
instance : TiC Tryz.prog 85 ⟨.struct #[{ name := "Code", type := 3, offset := 0, embedded := false, tag := "", pkgPath := "", byteOffset := 0 }, { name := "Data", type := 22, offset := 1, embedded := false, tag := "", pkgPath := "", byteOffset := 8 }, { name := "M", type := 3, offset := 2, embedded := false, tag := "", pkgPath := "", byteOffset := 32 }, { name := "N", type := 3, offset := 3, embedded := false, tag := "", pkgPath := "", byteOffset := 40 }], 4, 48, .agg #[.int .i64 0, .slice none 0 0, .int .i64 0, .int .i64 0]⟩ := ⟨wH⟩
instance : NoA Tryz.prog 85 := ⟨trivial⟩
instance : TiC Tryz.prog 89 ⟨.struct #[{ name := "Prev", type := 66, offset := 0, embedded := false, tag := "", pkgPath := "", byteOffset := 0 }, { name := "Sequence", type := 47, offset := 33, embedded := false, tag := "", pkgPath := "", byteOffset := 36 }, { name := "Witness", type := 28, offset := 34, embedded := false, tag := "", pkgPath := "", byteOffset := 40 }], 35, 64, .agg #[.int .u8 0, .int .u8 0, .int .u8 0, .int .u8 0, .int .u8 0, .int .u8 0, .int .u8 0, .int .u8 0, .int .u8 0, .int .u8 0, .int .u8 0, .int .u8 0, .int .u8 0, .int .u8 0, .int .u8 0, .int .u8 0, .int .u8 0, .int .u8 0, .int .u8 0, .int .u8 0, .int .u8 0, .int .u8 0, .int .u8 0, .int .u8 0, .int .u8 0, .int .u8 0, .int .u8 0, .int .u8 0, .int .u8 0, .int .u8 0, .int .u8 0, .int .u8 0, .int .u32 0, .int .u32 0, .slice none 0 0]⟩ := ⟨aOD⟩
instance : TiC Tryz.prog 90 ⟨.struct #[{ name := "Prev", type := 66, offset := 0, embedded := false, tag := "", pkgPath := "", byteOffset := 0 }, { name := "Sequence", type := 47, offset := 33, embedded := false, tag := "", pkgPath := "", byteOffset := 36 }, { name := "Witness", type := 28, offset := 34, embedded := false, tag := "", pkgPath := "", byteOffset := 40 }], 35, 64, .agg #[.int .u8 0, .int .u8 0, .int .u8 0, .int .u8 0, .int .u8 0, .int .u8 0, .int .u8 0, .int .u8 0, .int .u8 0, .int .u8 0, .int .u8 0, .int .u8 0, .int .u8 0, .int .u8 0, .int .u8 0, .int .u8 0, .int .u8 0, .int .u8 0, .int .u8 0, .int .u8 0, .int .u8 0, .int .u8 0, .int .u8 0, .int .u8 0, .int .u8 0, .int .u8 0, .int .u8 0, .int .u8 0, .int .u8 0, .int .u8 0, .int .u8 0, .int .u8 0, .int .u32 0, .int .u32 0, .slice none 0 0]⟩ := ⟨aC5⟩
instance : TiC Tryz.prog 103 ⟨.slice 127, 1, 24, .slice none 0 0⟩ := ⟨aCz⟩
instance : NoA Tryz.prog 103 := ⟨trivial⟩
instance : TiC Tryz.prog 104 ⟨.struct #[{ name := "Env", type := 42, offset := 0, embedded := true, tag := "", pkgPath := "", byteOffset := 0 }, { name := "stack", type := 28, offset := 34, embedded := false, tag := "", pkgPath := "lightclient/script", byteOffset := 48 }, { name := "branches", type := 103, offset := 35, embedded := false, tag := "", pkgPath := "lightclient/script", byteOffset := 72 }, { name := "cost", type := 3, offset := 36, embedded := false, tag := "", pkgPath := "lightclient/script", byteOffset := 96 }], 37, 104, .agg #[.int .u8 0, .int .u8 0, .int .u8 0, .int .u8 0, .int .u8 0, .int .u8 0, .int .u8 0, .int .u8 0, .int .u8 0, .int .u8 0, .int .u8 0, .int .u8 0, .int .u8 0, .int .u8 0, .int .u8 0, .int .u8 0, .int .u8 0, .int .u8 0, .int .u8 0, .int .u8 0, .int .u8 0, .int .u8 0, .int .u8 0, .int .u8 0, .int .u8 0, .int .u8 0, .int .u8 0, .int .u8 0, .int .u8 0, .int .u8 0, .int .u8 0, .int .u8 0, .int .i64 0, .int .i64 0, .slice none 0 0, .slice none 0 0, .int .i64 0]⟩ := ⟨aNZ⟩
instance : TiC Tryz.prog 105 ⟨.struct #[{ name := "Env", type := 42, offset := 0, embedded := true, tag := "", pkgPath := "", byteOffset := 0 }, { name := "stack", type := 28, offset := 34, embedded := false, tag := "", pkgPath := "lightclient/script", byteOffset := 48 }, { name := "branches", type := 103, offset := 35, embedded := false, tag := "", pkgPath := "lightclient/script", byteOffset := 72 }, { name := "cost", type := 3, offset := 36, embedded := false, tag := "", pkgPath := "lightclient/script", byteOffset := 96 }], 37, 104, .agg #[.int .u8 0, .int .u8 0, .int .u8 0, .int .u8 0, .int .u8 0, .int .u8 0, .int .u8 0, .int .u8 0, .int .u8 0, .int .u8 0, .int .u8 0, .int .u8 0, .int .u8 0, .int .u8 0, .int .u8 0, .int .u8 0, .int .u8 0, .int .u8 0, .int .u8 0, .int .u8 0, .int .u8 0, .int .u8 0, .int .u8 0, .int .u8 0, .int .u8 0, .int .u8 0, .int .u8 0, .int .u8 0, .int .u8 0, .int .u8 0, .int .u8 0, .int .u8 0, .int .i64 0, .int .i64 0, .slice none 0 0, .slice none 0 0, .int .i64 0]⟩ := ⟨q7⟩
instance : TiC Tryz.prog 107 ⟨.int .u64, 1, 8, .int .u64 0⟩ := ⟨aOz⟩
instance : NoA Tryz.prog 107 := ⟨trivial⟩
instance : TiC Tryz.prog 124 ⟨.slice 4, 1, 24, .slice none 0 0⟩ := ⟨aK9⟩
instance : NoA Tryz.prog 124 := ⟨trivial⟩
instance : TiC Tryz.prog 125 ⟨.pointer 105, 1, 8, .pointer none⟩ := ⟨aOf⟩
instance : NoA Tryz.prog 125 := ⟨trivial⟩
instance : TiC Tryz.prog 126 ⟨.struct #[{ name := "outer", type := 4, offset := 0, embedded := false, tag := "", pkgPath := "lightclient/script", byteOffset := 0 }, { name := "taken", type := 4, offset := 1, embedded := false, tag := "", pkgPath := "lightclient/script", byteOffset := 1 }], 2, 2, .agg #[.bool false, .bool false]⟩ := ⟨aNX⟩
instance : NoA Tryz.prog 126 := ⟨trivial⟩
instance : TiC Tryz.prog 127 ⟨.struct #[{ name := "outer", type := 4, offset := 0, embedded := false, tag := "", pkgPath := "lightclient/script", byteOffset := 0 }, { name := "taken", type := 4, offset := 1, embedded := false, tag := "", pkgPath := "lightclient/script", byteOffset := 1 }], 2, 2, .agg #[.bool false, .bool false]⟩ := ⟨yG⟩
instance : NoA Tryz.prog 127 := ⟨trivial⟩
instance : TiC Tryz.prog 141 ⟨.map 66 4, 1, 8, .map none⟩ := ⟨aN6⟩
instance : NoA Tryz.prog 141 := ⟨trivial⟩
instance : TiC Tryz.prog 146 ⟨.array 8 47, 8, 32, .agg #[.int .u32 0, .int .u32 0, .int .u32 0, .int .u32 0, .int .u32 0, .int .u32 0, .int .u32 0, .int .u32 0]⟩ := ⟨aCo⟩
instance : TiC Tryz.prog 148 ⟨.array 64 5, 64, 64, .agg #[.int .u8 0, .int .u8 0, .int .u8 0, .int .u8 0, .int .u8 0, .int .u8 0, .int .u8 0, .int .u8 0, .int .u8 0, .int .u8 0, .int .u8 0, .int .u8 0, .int .u8 0, .int .u8 0, .int .u8 0, .int .u8 0, .int .u8 0, .int .u8 0, .int .u8 0, .int .u8 0, .int .u8 0, .int .u8 0, .int .u8 0, .int .u8 0, .int .u8 0, .int .u8 0, .int .u8 0, .int .u8 0, .int .u8 0, .int .u8 0, .int .u8 0, .int .u8 0, .int .u8 0, .int .u8 0, .int .u8 0, .int .u8 0, .int .u8 0, .int .u8 0, .int .u8 0, .int .u8 0, .int .u8 0, .int .u8 0, .int .u8 0, .int .u8 0, .int .u8 0, .int .u8 0, .int .u8 0, .int .u8 0, .int .u8 0, .int .u8 0, .int .u8 0, .int .u8 0, .int .u8 0, .int .u8 0, .int .u8 0, .int .u8 0, .int .u8 0, .int .u8 0, .int .u8 0, .int .u8 0, .int .u8 0, .int .u8 0, .int .u8 0, .int .u8 0]⟩ := ⟨aH9⟩
instance : TiC Tryz.prog 160 ⟨.array 8 29, 8, 64, .agg #[.int .u64 0, .int .u64 0, .int .u64 0, .int .u64 0, .int .u64 0, .int .u64 0, .int .u64 0, .int .u64 0]⟩ := ⟨aCr⟩
instance : TiC Tryz.prog 162 ⟨.slice 29, 1, 24, .slice none 0 0⟩ := ⟨aH7⟩
instance : NoA Tryz.prog 162 := ⟨trivial⟩
instance : TiC Tryz.prog 164 ⟨.array 64 47, 64, 256, .agg #[.int .u32 0, .int .u32 0, .int .u32 0, .int .u32 0, .int .u32 0, .int .u32 0, .int .u32 0, .int .u32 0, .int .u32 0, .int .u32 0, .int .u32 0, .int .u32 0, .int .u32 0, .int .u32 0, .int .u32 0, .int .u32 0, .int .u32 0, .int .u32 0, .int .u32 0, .int .u32 0, .int .u32 0, .int .u32 0, .int .u32 0, .int .u32 0, .int .u32 0, .int .u32 0, .int .u32 0, .int .u32 0, .int .u32 0, .int .u32 0, .int .u32 0, .int .u32 0, .int .u32 0, .int .u32 0, .int .u32 0, .int .u32 0, .int .u32 0, .int .u32 0, .int .u32 0, .int .u32 0, .int .u32 0, .int .u32 0, .int .u32 0, .int .u32 0, .int .u32 0, .int .u32 0, .int .u32 0, .int .u32 0, .int .u32 0, .int .u32 0, .int .u32 0, .int .u32 0, .int .u32 0, .int .u32 0, .int .u32 0, .int .u32 0, .int .u32 0, .int .u32 0, .int .u32 0, .int .u32 0, .int .u32 0, .int .u32 0, .int .u32 0, .int .u32 0]⟩ := ⟨aIq⟩
instance : TiC Tryz.prog 173 ⟨.slice 24, 1, 24, .slice none 0 0⟩ := ⟨aLm⟩
instance : NoA Tryz.prog 173 := ⟨trivial⟩
instance : TiC Tryz.prog 186 ⟨.pointer 5, 1, 8, .pointer none⟩ := ⟨aOp⟩
instance : NoA Tryz.prog 186 := ⟨trivial⟩
theorem aMv (b off : Nat) : aI Tryz.prog 37 (.ptr b off) 0 = some (.ptr b (off + 0)) := by simp [aI, uD, bE]
theorem aL4 (es : List V) (i off : Nat) : aI Tryz.prog 37 (.eptr es i off) 0 = some (.eptr es i (off + 0)) := by simp [aI, uD, bE]
instance : FaC Tryz.prog 37 0 0 := ⟨aMv, aL4⟩
theorem aMe (b off : Nat) : aI Tryz.prog 37 (.ptr b off) 1 = some (.ptr b (off + 4)) := by simp [aI, uD, bE]
theorem aMO (es : List V) (i off : Nat) : aI Tryz.prog 37 (.eptr es i off) 1 = some (.eptr es i (off + 4)) := by simp [aI, uD, bE]
instance : FaC Tryz.prog 37 1 4 := ⟨aMe, aMO⟩
theorem aMK (b off : Nat) : aI Tryz.prog 42 (.ptr b off) 0 = some (.ptr b (off + 0)) := by simp [aI, jQ, s8]
theorem aMX (es : List V) (i off : Nat) : aI Tryz.prog 42 (.eptr es i off) 0 = some (.eptr es i (off + 0)) := by simp [aI, jQ, s8]
instance : FaC Tryz.prog 42 0 0 := ⟨aMK, aMX⟩
theorem aMR (b off : Nat) : aI Tryz.prog 42 (.ptr b off) 1 = some (.ptr b (off + 32)) := by simp [aI, jQ, gX]
theorem aMU (es : List V) (i off : Nat) : aI Tryz.prog 42 (.eptr es i off) 1 = some (.eptr es i (off + 32)) := by simp [aI, jQ, gX]
instance : FaC Tryz.prog 42 1 32 := ⟨aMR, aMU⟩
theorem aLY (b off : Nat) : aI Tryz.prog 42 (.ptr b off) 2 = some (.ptr b (off + 33)) := by simp [aI, jQ, gX]
theorem aLV (es : List V) (i off : Nat) : aI Tryz.prog 42 (.eptr es i off) 2 = some (.eptr es i (off + 33)) := by simp [aI, jQ, gX]
instance : FaC Tryz.prog 42 2 33 := ⟨aLY, aLV⟩
theorem aL8 (b off : Nat) : aI Tryz.prog 54 (.ptr b off) 0 = some (.ptr b (off + 0)) := by simp [aI, aAS, tA]
theorem aLP (es : List V) (i off : Nat) : aI Tryz.prog 54 (.eptr es i off) 0 = some (.eptr es i (off + 0)) := by simp [aI, aAS, tA]
instance : FaC Tryz.prog 54 0 0 := ⟨aL8, aLP⟩
theorem aLW (b off : Nat) : aI Tryz.prog 54 (.ptr b off) 1 = some (.ptr b (off + 1)) := by simp [aI, aAS, aKc]
theorem aLG (es : List V) (i off : Nat) : aI Tryz.prog 54 (.eptr es i off) 1 = some (.eptr es i (off + 1)) := by simp [aI, aAS, aKc]
instance : FaC Tryz.prog 54 1 1 := ⟨aLW, aLG⟩
theorem aML (b off : Nat) : aI Tryz.prog 54 (.ptr b off) 2 = some (.ptr b (off + 2)) := by simp [aI, aAS, aKG]
theorem aMw (es : List V) (i off : Nat) : aI Tryz.prog 54 (.eptr es i off) 2 = some (.eptr es i (off + 2)) := by simp [aI, aAS, aKG]
instance : FaC Tryz.prog 54 2 2 := ⟨aML, aMw⟩
theorem aMt (b off : Nat) : aI Tryz.prog 54 (.ptr b off) 3 = some (.ptr b (off + 3)) := by simp [aI, aAS, tA]
theorem aMz (es : List V) (i off : Nat) : aI Tryz.prog 54 (.eptr es i off) 3 = some (.eptr es i (off + 3)) := by simp [aI, aAS, tA]
instance : FaC Tryz.prog 54 3 3 := ⟨aMt, aMz⟩
theorem aMZ (b off : Nat) : aI Tryz.prog 57 (.ptr b off) 0 = some (.ptr b (off + 0)) := by simp [aI, aDb, ti2]
theorem aMJ (es : List V) (i off : Nat) : aI Tryz.prog 57 (.eptr es i off) 0 = some (.eptr es i (off + 0)) := by simp [aI, aDb, ti2]
instance : FaC Tryz.prog 57 0 0 := ⟨aMZ, aMJ⟩
theorem aMQ (b off : Nat) : aI Tryz.prog 57 (.ptr b off) 1 = some (.ptr b (off + 1)) := by simp [aI, aDb, bH]
theorem aLQ (es : List V) (i off : Nat) : aI Tryz.prog 57 (.eptr es i off) 1 = some (.eptr es i (off + 1)) := by simp [aI, aDb, bH]
instance : FaC Tryz.prog 57 1 1 := ⟨aMQ, aLQ⟩
theorem aLz (b off : Nat) : aI Tryz.prog 66 (.ptr b off) 0 = some (.ptr b (off + 0)) := by simp [aI, aAO, s8]
theorem aMp (es : List V) (i off : Nat) : aI Tryz.prog 66 (.eptr es i off) 0 = some (.eptr es i (off + 0)) := by simp [aI, aAO, s8]
instance : FaC Tryz.prog 66 0 0 := ⟨aLz, aMp⟩
theorem aLq (b off : Nat) : aI Tryz.prog 66 (.ptr b off) 1 = some (.ptr b (off + 32)) := by simp [aI, aAO, tA]
theorem aMb (es : List V) (i off : Nat) : aI Tryz.prog 66 (.eptr es i off) 1 = some (.eptr es i (off + 32)) := by simp [aI, aAO, tA]
instance : FaC Tryz.prog 66 1 32 := ⟨aLq, aMb⟩
theorem aLw (b off : Nat) : aI Tryz.prog 68 (.ptr b off) 0 = some (.ptr b (off + 0)) := by simp [aI, aDa, aAO]
theorem aMh (es : List V) (i off : Nat) : aI Tryz.prog 68 (.eptr es i off) 0 = some (.eptr es i (off + 0)) := by simp [aI, aDa, aAO]
instance : FaC Tryz.prog 68 0 0 := ⟨aLw, aMh⟩
theorem aLF (b off : Nat) : aI Tryz.prog 68 (.ptr b off) 1 = some (.ptr b (off + 33)) := by simp [aI, aDa, aDb]
theorem aLU (es : List V) (i off : Nat) : aI Tryz.prog 68 (.eptr es i off) 1 = some (.eptr es i (off + 33)) := by simp [aI, aDa, aDb]
instance : FaC Tryz.prog 68 1 33 := ⟨aLF, aLU⟩
theorem aMa (b off : Nat) : aI Tryz.prog 68 (.ptr b off) 2 = some (.ptr b (off + 35)) := by simp [aI, aDa, gX]
theorem aMg (es : List V) (i off : Nat) : aI Tryz.prog 68 (.eptr es i off) 2 = some (.eptr es i (off + 35)) := by simp [aI, aDa, gX]
instance : FaC Tryz.prog 68 2 35 := ⟨aMa, aMg⟩
theorem aLJ (b off : Nat) : aI Tryz.prog 85 (.ptr b off) 0 = some (.ptr b (off + 0)) := by simp [aI, wH, gX]
theorem aLC (es : List V) (i off : Nat) : aI Tryz.prog 85 (.eptr es i off) 0 = some (.eptr es i (off + 0)) := by simp [aI, wH, gX]
instance : FaC Tryz.prog 85 0 0 := ⟨aLJ, aLC⟩
theorem aHT (b off : Nat) : aI Tryz.prog 85 (.ptr b off) 1 = some (.ptr b (off + 1)) := by simp [aI, wH, bH]
theorem aMj (es : List V) (i off : Nat) : aI Tryz.prog 85 (.eptr es i off) 1 = some (.eptr es i (off + 1)) := by simp [aI, wH, bH]
instance : FaC Tryz.prog 85 1 1 := ⟨aHT, aMj⟩
theorem aHC (b off : Nat) : aI Tryz.prog 85 (.ptr b off) 2 = some (.ptr b (off + 2)) := by simp [aI, wH, gX]
theorem aMc (es : List V) (i off : Nat) : aI Tryz.prog 85 (.eptr es i off) 2 = some (.eptr es i (off + 2)) := by simp [aI, wH, gX]
instance : FaC Tryz.prog 85 2 2 := ⟨aHC, aMc⟩
theorem qQ (b off : Nat) : aI Tryz.prog 85 (.ptr b off) 3 = some (.ptr b (off + 3)) := by simp [aI, wH, gX]
theorem aL6 (es : List V) (i off : Nat) : aI Tryz.prog 85 (.eptr es i off) 3 = some (.eptr es i (off + 3)) := by simp [aI, wH, gX]
instance : FaC Tryz.prog 85 3 3 := ⟨qQ, aL6⟩
theorem aM1 (b off : Nat) : aI Tryz.prog 90 (.ptr b off) 0 = some (.ptr b (off + 0)) := by simp [aI, aC5, aAO]
theorem aMd (es : List V) (i off : Nat) : aI Tryz.prog 90 (.eptr es i off) 0 = some (.eptr es i (off + 0)) := by simp [aI, aC5, aAO]
instance : FaC Tryz.prog 90 0 0 := ⟨aM1, aMd⟩
theorem aMN (b off : Nat) : aI Tryz.prog 90 (.ptr b off) 1 = some (.ptr b (off + 33)) := by simp [aI, aC5, tA]
theorem aMq (es : List V) (i off : Nat) : aI Tryz.prog 90 (.eptr es i off) 1 = some (.eptr es i (off + 33)) := by simp [aI, aC5, tA]
instance : FaC Tryz.prog 90 1 33 := ⟨aMN, aMq⟩
theorem aLy (b off : Nat) : aI Tryz.prog 90 (.ptr b off) 2 = some (.ptr b (off + 34)) := by simp [aI, aC5, cP]
theorem aLv (es : List V) (i off : Nat) : aI Tryz.prog 90 (.eptr es i off) 2 = some (.eptr es i (off + 34)) := by simp [aI, aC5, cP]
instance : FaC Tryz.prog 90 2 34 := ⟨aLy, aLv⟩
theorem aJL (b off : Nat) : aI Tryz.prog 105 (.ptr b off) 0 = some (.ptr b (off + 0)) := by simp [aI, q7, jQ]
theorem aK1 (es : List V) (i off : Nat) : aI Tryz.prog 105 (.eptr es i off) 0 = some (.eptr es i (off + 0)) := by simp [aI, q7, jQ]
instance : FaC Tryz.prog 105 0 0 := ⟨aJL, aK1⟩
theorem aKT (b off : Nat) : aI Tryz.prog 105 (.ptr b off) 1 = some (.ptr b (off + 34)) := by simp [aI, q7, cP]
theorem aJM (es : List V) (i off : Nat) : aI Tryz.prog 105 (.eptr es i off) 1 = some (.eptr es i (off + 34)) := by simp [aI, q7, cP]
instance : FaC Tryz.prog 105 1 34 := ⟨aKT, aJM⟩
theorem aKV (b off : Nat) : aI Tryz.prog 105 (.ptr b off) 2 = some (.ptr b (off + 35)) := by simp [aI, q7, aCz]
theorem aJY (es : List V) (i off : Nat) : aI Tryz.prog 105 (.eptr es i off) 2 = some (.eptr es i (off + 35)) := by simp [aI, q7, aCz]
instance : FaC Tryz.prog 105 2 35 := ⟨aKV, aJY⟩
theorem aKs (b off : Nat) : aI Tryz.prog 105 (.ptr b off) 3 = some (.ptr b (off + 36)) := by simp [aI, q7, gX]
theorem aK5 (es : List V) (i off : Nat) : aI Tryz.prog 105 (.eptr es i off) 3 = some (.eptr es i (off + 36)) := by simp [aI, q7, gX]
instance : FaC Tryz.prog 105 3 36 := ⟨aKs, aK5⟩
theorem aJV (b off : Nat) : aI Tryz.prog 127 (.ptr b off) 0 = some (.ptr b (off + 0)) := by simp [aI, yG, ti4]
theorem aJK (es : List V) (i off : Nat) : aI Tryz.prog 127 (.eptr es i off) 0 = some (.eptr es i (off + 0)) := by simp [aI, yG, ti4]
instance : FaC Tryz.prog 127 0 0 := ⟨aJV, aJK⟩
theorem aKp (b off : Nat) : aI Tryz.prog 127 (.ptr b off) 1 = some (.ptr b (off + 1)) := by simp [aI, yG, ti4]
theorem aKY (es : List V) (i off : Nat) : aI Tryz.prog 127 (.eptr es i off) 1 = some (.eptr es i (off + 1)) := by simp [aI, yG, ti4]
instance : FaC Tryz.prog 127 1 1 := ⟨aKp, aKY⟩
theorem aED : jY Tryz.prog 37 = some #[(0, 4), (4, 4)] := by kernel_rfl
instance : PlC Tryz.prog 37 #[(0, 4), (4, 4)] := ⟨aED⟩
theorem aKH : jY Tryz.prog 42 = some #[(0, 32), (32, 1), (33, 1)] := by kernel_rfl
instance : PlC Tryz.prog 42 #[(0, 32), (32, 1), (33, 1)] := ⟨aKH⟩
theorem aPt : jY Tryz.prog 54 = some #[(0, 1), (1, 1), (2, 1), (3, 1)] := by kernel_rfl
instance : PlC Tryz.prog 54 #[(0, 1), (1, 1), (2, 1), (3, 1)] := ⟨aPt⟩
theorem aPk : jY Tryz.prog 57 = some #[(0, 1), (1, 1)] := by kernel_rfl
instance : PlC Tryz.prog 57 #[(0, 1), (1, 1)] := ⟨aPk⟩
theorem aPD : jY Tryz.prog 66 = some #[(0, 32), (32, 1)] := by kernel_rfl
instance : PlC Tryz.prog 66 #[(0, 32), (32, 1)] := ⟨aPD⟩
theorem aOE : jY Tryz.prog 68 = some #[(0, 33), (33, 2), (35, 1), (36, 1)] := by kernel_rfl
instance : PlC Tryz.prog 68 #[(0, 33), (33, 2), (35, 1), (36, 1)] := ⟨aOE⟩
theorem aPN : jY Tryz.prog 85 = some #[(0, 1), (1, 1), (2, 1), (3, 1)] := by kernel_rfl
instance : PlC Tryz.prog 85 #[(0, 1), (1, 1), (2, 1), (3, 1)] := ⟨aPN⟩
theorem aOT : jY Tryz.prog 90 = some #[(0, 33), (33, 1), (34, 1)] := by kernel_rfl
instance : PlC Tryz.prog 90 #[(0, 33), (33, 1), (34, 1)] := ⟨aOT⟩
theorem aIp : jY Tryz.prog 105 = some #[(0, 34), (34, 1), (35, 1), (36, 1)] := by kernel_rfl
instance : PlC Tryz.prog 105 #[(0, 34), (34, 1), (35, 1), (36, 1)] := ⟨aIp⟩
theorem aOx : jY Tryz.prog 127 = some #[(0, 1), (1, 1)] := by kernel_rfl
instance : PlC Tryz.prog 127 #[(0, 1), (1, 1)] := ⟨aOx⟩
theorem zB {f : FuncId} {hs hs' hb hb' : Hp} {args xs : List V} {r v : V} (hc : Vm.Fn Tryz.prog f hs args r hs') (ρ : List Nat) (hnd : ρ.Nodup := by decide) (hlt : ρ.all (fun b => Nat.blt b hb.length) = true := by rfl)
    (hl : Lend (sg ρ hb.length) hb ρ hs := by repeat (first | exact Lend.nil | refine Lend.cons rfl rfl ?_ | refine Lend.cons rfl (mA (fun _ => rfl) _) ?_ | refine Lend.cons rfl (fN (fun _ => rfl) _) ?_)) (hx : V.rns (sg ρ hb.length) args = xs := by first | rfl | (simp only [V.rn, V.rns, iF, iJ] <;> rfl)) (hr : r.rn (sg ρ hb.length) = v := by first | rfl | (simp only [V.rn, V.rns, iF, iJ] <;> rfl)) (hh : iT hb ρ hs' = hb' := by (simp only [iT, dV, iK, oD, Blk.rn, V.rns, V.rn, sg, List.map_cons, List.map_nil, Option.map_some, Option.map_none, List.drop_succ_cons, List.drop_zero, List.drop_nil, List.set_cons_zero, List.set_cons_succ, List.cons_append, List.nil_append, List.append_nil, iF, iJ, tS, tL, iH, iD, dC, c9, dJ, dK, eT, eP, d9, d8, lZ, fJ, fF, o8, pF, mE, mH, mO, qM, oL, List.getElem?_cons_zero, List.getElem?_cons_succ, List.getElem?_nil, List.length_cons, List.length_nil, Nat.reduceAdd, Nat.reduceSub, Nat.add_zero, Nat.zero_add, Nat.sub_self, Nat.sub_zero] <;> rfl)) : Vm.Fn Tryz.prog f hb xs v hb' := Vm.Fn.lendB hc ρ hnd hlt hl hx hr hh
theorem zL {f : FuncId} {hs hs' hb hb' : Hp} {args xs : List V} {r v : V} (hc : Vm.Fn Tryz.prog f hs args r hs') (ρ β : List Nat) (hnd : ρ.Nodup := by decide) (hlt : ρ.all (fun b => Nat.blt b hb.length) = true := by rfl) (hdis : ∀ b ∈ β, b ∉ ρ := by decide)
    (hl : Lend (sg ρ hb.length) hb ρ hs := by repeat (first | exact Lend.nil | refine Lend.cons rfl rfl ?_ | refine Lend.cons rfl (mA (fun _ => rfl) _) ?_ | refine Lend.cons rfl (fN (fun _ => rfl) _) ?_))
    (hx : Brw (sg ρ hb.length) (only β hb) xs args := by repeat (first | exact Brw.nil | refine Brw.same rfl ?_ | refine Brw.row (aEx rfl rfl (fun _ => rfl)) ?_ | refine Brw.same (by simp only [V.rn, V.rns, iF, iJ]) ?_))
    (hrf : r.rf = true := by first | rfl | simp [V.rf, V.rfs, aGx, aGG]) (hrb : rfB hs' := by repeat (first | exact rfB.nil | refine rfB.dead ?_ | refine rfB.live rfl ?_ | refine rfB.live (yT (fun _ => rfl) _) ?_ | refine rfB.live (aBe (fun _ => rfl) _) ?_))
    (hr : r.rn (sg ρ hb.length) = v := by first | rfl | (simp only [V.rn, V.rns, iF, iJ] <;> rfl)) (hh : iT hb ρ hs' = hb' := by simp only [iT, dV, iK, oD, Blk.rn, V.rns, V.rn, sg, List.map_cons, List.map_nil, Option.map_some, Option.map_none, List.drop_succ_cons, List.drop_zero, List.drop_nil, List.set_cons_zero, List.set_cons_succ, List.cons_append, List.nil_append, List.append_nil, iF, iJ, tS, tL, iH, iD, dC, c9, dJ, dK, eT, eP, d9, d8, lZ, fJ, fF, o8, pF, mE, mH, mO, qM, oL, List.getElem?_cons_zero, List.getElem?_cons_succ, List.getElem?_nil, List.length_cons, List.length_nil, Nat.reduceAdd, Nat.reduceSub, Nat.add_zero, Nat.zero_add, Nat.sub_self, Nat.sub_zero]) : Vm.Fn Tryz.prog f hb xs v hb' := Vm.Fn.lendR hc ρ β hnd hlt hdis hl hx hrf hrb hr hh
theorem zc {f : FuncId} {hb : Hp} {args xs : List V} {r : V} {N n t : Nat} {ops : Array Oper} {l : List Oper} {fr : List (Nat × V)} {K : List V → Hp → Prop} {ty : TypeId} {pos : String} {aft : Array Edge} {ws : List Operand} {ts : Array TypeId} {hs hs' hb' : Hp} {v : V} (hc : Vm.Fn Tryz.prog f hs args r hs') (ρ : List Nat) (k : OpsX Tryz.prog N none ops l (aG n ((t, v) :: fr)) hb' K) (hw : oT n fr ws = some xs := by rfl) (hnd : ρ.Nodup := by decide) (hlt : ρ.all (fun b => Nat.blt b hb.length) = true := by rfl) (hl : Lend (sg ρ hb.length) hb ρ hs := by repeat (first | exact Lend.nil | refine Lend.cons rfl rfl ?_ | refine Lend.cons rfl (mA (fun _ => rfl) _) ?_ | refine Lend.cons rfl (fN (fun _ => rfl) _) ?_)) (hx : V.les tM xs (V.rns (sg ρ hb.length) args) := by repeat (first | exact V.les_refl _ _ | exact V.les_nil | apply V.les_cons | exact V.le_refl _ _ | exact V.le_nil | exact V.le_row | exact V.le_arr (fun _ => rfl) | apply V.le_agg)) (hr : r.rn (sg ρ hb.length) = v := by (simp only [iT, dV, iK, oD, Blk.rn, V.rns, V.rn, sg, List.map_cons, List.map_nil, Option.map_some, Option.map_none, List.drop_succ_cons, List.drop_zero, List.drop_nil, List.set_cons_zero, List.set_cons_succ, List.cons_append, List.nil_append, List.append_nil, iF, iJ, tS, tL, iH, iD, dC, c9, dJ, dK, eT, eP, d9, d8, lZ, fJ, fF, o8, pF, mE, mH, mO, qM, oL, List.getElem?_cons_zero, List.getElem?_cons_succ, List.getElem?_nil, List.length_cons, List.length_nil, Nat.reduceAdd, Nat.reduceSub, Nat.add_zero, Nat.zero_add, Nat.sub_self, Nat.sub_zero] <;> rfl)) (hh : iT hb ρ hs' = hb' := by (simp only [iT, dV, iK, oD, Blk.rn, V.rns, V.rn, sg, List.map_cons, List.map_nil, Option.map_some, Option.map_none, List.drop_succ_cons, List.drop_zero, List.drop_nil, List.set_cons_zero, List.set_cons_succ, List.cons_append, List.nil_append, List.append_nil, iF, iJ, tS, tL, iH, iD, dC, c9, dJ, dK, eT, eP, d9, d8, lZ, fJ, fF, o8, pF, mE, mH, mO, qM, oL, List.getElem?_cons_zero, List.getElem?_cons_succ, List.getElem?_nil, List.length_cons, List.length_nil, Nat.reduceAdd, Nat.reduceSub, Nat.add_zero, Nat.zero_add, Nat.sub_self, Nat.sub_zero] <;> rfl)) : OpsX Tryz.prog N none ops (⟨some t, .call ⟨.value (.func f), ws.toArray, ts⟩, ty, pos, aft, none⟩ :: l) (aG n fr) hb K := xC hw (Vm.Fn.argsLe (Vm.Fn.lendB hc ρ hnd hlt hl rfl hr hh) hx) k
theorem vG {f : FuncId} {hb : Hp} {args xs : List V} {r : V} {N n t : Nat} {ops : Array Oper} {l : List Oper} {fr : List (Nat × V)} {K : List V → Hp → Prop} {ty : TypeId} {pos : String} {aft : Array Edge} {ws : List Operand} {ts : Array TypeId} {hs hs' hb' : Hp} {v : V} (hc : Vm.Fn Tryz.prog f hs args r hs') (ρ β : List Nat) (k : OpsX Tryz.prog N none ops l (aG n ((t, v) :: fr)) hb' K) (hw : oT n fr ws = some xs := by rfl) (hnd : ρ.Nodup := by decide) (hlt : ρ.all (fun b => Nat.blt b hb.length) = true := by rfl) (hdis : ∀ b ∈ β, b ∉ ρ := by decide) (hl : Lend (sg ρ hb.length) hb ρ hs := by repeat (first | exact Lend.nil | refine Lend.cons rfl rfl ?_ | refine Lend.cons rfl (mA (fun _ => rfl) _) ?_ | refine Lend.cons rfl (fN (fun _ => rfl) _) ?_)) (hx : Brw (sg ρ hb.length) (only β hb) xs args := by repeat (first | exact Brw.nil | refine Brw.same rfl ?_ | refine Brw.row (aEx (by first | exact rfl | (simp only [bR, bQ]; done) | exact aQ (by assumption) | exact bP (by assumption)) rfl (fun _ => rfl)) ?_ | refine Brw.row (aGK (fun _ => rfl) zl (by first | exact rfl | (simp only [bR, bQ]; done) | exact aQ (by assumption) | exact bP (by assumption)) rfl (fun _ => rfl)) ?_ | refine Brw.same (by simp only [V.rn, V.rns, iF, iJ]) ?_ | refine Brw.le V.le_nil ?_ | refine Brw.le V.le_row ?_)) (hrf : r.rf = true := by first | rfl | simp [V.rf, V.rfs, aGx, aGG]) (hrb : rfB hs' := by repeat (first | exact rfB.nil | refine rfB.dead ?_ | refine rfB.live rfl ?_ | refine rfB.live (yT (fun _ => rfl) _) ?_ | refine rfB.live (aBe (fun _ => rfl) _) ?_)) (hr : r.rn (sg ρ hb.length) = v := by (simp only [iT, dV, iK, oD, Blk.rn, V.rns, V.rn, sg, List.map_cons, List.map_nil, Option.map_some, Option.map_none, List.drop_succ_cons, List.drop_zero, List.drop_nil, List.set_cons_zero, List.set_cons_succ, List.cons_append, List.nil_append, List.append_nil, iF, iJ, tS, tL, iH, iD, dC, c9, dJ, dK, eT, eP, d9, d8, lZ, fJ, fF, o8, pF, mE, mH, mO, qM, oL, List.getElem?_cons_zero, List.getElem?_cons_succ, List.getElem?_nil, List.length_cons, List.length_nil, Nat.reduceAdd, Nat.reduceSub, Nat.add_zero, Nat.zero_add, Nat.sub_self, Nat.sub_zero] <;> rfl)) (hh : iT hb ρ hs' = hb' := by (simp only [iT, dV, iK, oD, Blk.rn, V.rns, V.rn, sg, List.map_cons, List.map_nil, Option.map_some, Option.map_none, List.drop_succ_cons, List.drop_zero, List.drop_nil, List.set_cons_zero, List.set_cons_succ, List.cons_append, List.nil_append, List.append_nil, iF, iJ, tS, tL, iH, iD, dC, c9, dJ, dK, eT, eP, d9, d8, lZ, fJ, fF, o8, pF, mE, mH, mO, qM, oL, List.getElem?_cons_zero, List.getElem?_cons_succ, List.getElem?_nil, List.length_cons, List.length_nil, Nat.reduceAdd, Nat.reduceSub, Nat.add_zero, Nat.zero_add, Nat.sub_self, Nat.sub_zero] <;> rfl)) : OpsX Tryz.prog N none ops (⟨some t, .call ⟨.value (.func f), ws.toArray, ts⟩, ty, pos, aft, none⟩ :: l) (aG n fr) hb K := xC hw (Vm.Fn.lendR hc ρ β hnd hlt hdis hl hx hrf hrb hr hh) k
theorem zg {f : FuncId} {hb : Hp} {args xs : List V} {r : V} {N n t : Nat} {ops : Array Oper} {l : List Oper} {fr : List (Nat × V)} {K : List V → Hp → Prop} {ty : TypeId} {pos : String} {aft : Array Edge} {ws : List Operand} {ts : Array TypeId} {hs hs' hb' : Hp} {v : V} {F G : List Nat} {gd : Option (Nat × Bool)} (hc : Vm.Fn Tryz.prog f hs args r hs') (ρ : List Nat) (k : OpsX Tryz.prog N (some (F, G)) ops l (aG n ((t, v) :: fr)) hb' K) (hw : oT n fr ws = some xs := by rfl) (hnd : ρ.Nodup := by decide) (hlt : ρ.all (fun b => Nat.blt b hb.length) = true := by rfl) (hl : Lend (sg ρ hb.length) hb ρ hs := by repeat (first | exact Lend.nil | refine Lend.cons rfl rfl ?_ | refine Lend.cons rfl (mA (fun _ => rfl) _) ?_ | refine Lend.cons rfl (fN (fun _ => rfl) _) ?_)) (hx : V.les tM xs (V.rns (sg ρ hb.length) args) := by repeat (first | exact V.les_refl _ _ | exact V.les_nil | apply V.les_cons | exact V.le_refl _ _ | exact V.le_nil | exact V.le_row | exact V.le_arr (fun _ => rfl) | apply V.le_agg)) (hr : r.rn (sg ρ hb.length) = v := by (simp only [iT, dV, iK, oD, Blk.rn, V.rns, V.rn, sg, List.map_cons, List.map_nil, Option.map_some, Option.map_none, List.drop_succ_cons, List.drop_zero, List.drop_nil, List.set_cons_zero, List.set_cons_succ, List.cons_append, List.nil_append, List.append_nil, iF, iJ, tS, tL, iH, iD, dC, c9, dJ, dK, eT, eP, d9, d8, lZ, fJ, fF, o8, pF, mE, mH, mO, qM, oL, List.getElem?_cons_zero, List.getElem?_cons_succ, List.getElem?_nil, List.length_cons, List.length_nil, Nat.reduceAdd, Nat.reduceSub, Nat.add_zero, Nat.zero_add, Nat.sub_self, Nat.sub_zero] <;> rfl)) (hh : iT hb ρ hs' = hb' := by (simp only [iT, dV, iK, oD, Blk.rn, V.rns, V.rn, sg, List.map_cons, List.map_nil, Option.map_some, Option.map_none, List.drop_succ_cons, List.drop_zero, List.drop_nil, List.set_cons_zero, List.set_cons_succ, List.cons_append, List.nil_append, List.append_nil, iF, iJ, tS, tL, iH, iD, dC, c9, dJ, dK, eT, eP, d9, d8, lZ, fJ, fF, o8, pF, mE, mH, mO, qM, oL, List.getElem?_cons_zero, List.getElem?_cons_succ, List.getElem?_nil, List.length_cons, List.length_nil, Nat.reduceAdd, Nat.reduceSub, Nat.add_zero, Nat.zero_add, Nat.sub_self, Nat.sub_zero] <;> rfl)) (hF : dN F f = false := by rfl) (hG : dN G f = true → ∃ news, hb' = hb ++ news := by first | exact (fun _ => ⟨_, rfl⟩) | exact (fun _ => ⟨[], (List.append_nil _).symm⟩) | exact (fun h => absurd h (by decide))) (hg : Gd ops n fr gd := by exact gD) : OpsX Tryz.prog N (some (F, G)) ops (⟨some t, .call ⟨.value (.func f), ws.toArray, ts⟩, ty, pos, aft, gd⟩ :: l) (aG n fr) hb K := xG hw (Vm.Fn.argsLe (Vm.Fn.lendB hc ρ hnd hlt hl rfl hr hh) hx) k hF hG hg
theorem zgL {f : FuncId} {hb : Hp} {args xs : List V} {r : V} {N n t : Nat} {ops : Array Oper} {l : List Oper} {fr : List (Nat × V)} {K : List V → Hp → Prop} {ty : TypeId} {pos : String} {aft : Array Edge} {ws : List Operand} {ts : Array TypeId} {hs hs' hb' : Hp} {v : V} {F G : List Nat} {gd : Option (Nat × Bool)} (hc : Vm.Fn Tryz.prog f hs args r hs') (ρ β : List Nat) (k : OpsX Tryz.prog N (some (F, G)) ops l (aG n ((t, v) :: fr)) hb' K) (hw : oT n fr ws = some xs := by rfl) (hnd : ρ.Nodup := by decide) (hlt : ρ.all (fun b => Nat.blt b hb.length) = true := by rfl) (hdis : ∀ b ∈ β, b ∉ ρ := by decide) (hl : Lend (sg ρ hb.length) hb ρ hs := by repeat (first | exact Lend.nil | refine Lend.cons rfl rfl ?_ | refine Lend.cons rfl (mA (fun _ => rfl) _) ?_ | refine Lend.cons rfl (fN (fun _ => rfl) _) ?_)) (hx : Brw (sg ρ hb.length) (only β hb) xs args := by repeat (first | exact Brw.nil | refine Brw.same rfl ?_ | refine Brw.row (aEx (by first | exact rfl | (simp only [bR, bQ]; done) | exact aQ (by assumption) | exact bP (by assumption)) rfl (fun _ => rfl)) ?_ | refine Brw.row (aGK (fun _ => rfl) zl (by first | exact rfl | (simp only [bR, bQ]; done) | exact aQ (by assumption) | exact bP (by assumption)) rfl (fun _ => rfl)) ?_ | refine Brw.same (by simp only [V.rn, V.rns, iF, iJ]) ?_ | refine Brw.le V.le_nil ?_ | refine Brw.le V.le_row ?_)) (hrf : r.rf = true := by first | rfl | simp [V.rf, V.rfs, aGx, aGG]) (hrb : rfB hs' := by repeat (first | exact rfB.nil | refine rfB.dead ?_ | refine rfB.live rfl ?_ | refine rfB.live (yT (fun _ => rfl) _) ?_ | refine rfB.live (aBe (fun _ => rfl) _) ?_)) (hr : r.rn (sg ρ hb.length) = v := by (simp only [iT, dV, iK, oD, Blk.rn, V.rns, V.rn, sg, List.map_cons, List.map_nil, Option.map_some, Option.map_none, List.drop_succ_cons, List.drop_zero, List.drop_nil, List.set_cons_zero, List.set_cons_succ, List.cons_append, List.nil_append, List.append_nil, iF, iJ, tS, tL, iH, iD, dC, c9, dJ, dK, eT, eP, d9, d8, lZ, fJ, fF, o8, pF, mE, mH, mO, qM, oL, List.getElem?_cons_zero, List.getElem?_cons_succ, List.getElem?_nil, List.length_cons, List.length_nil, Nat.reduceAdd, Nat.reduceSub, Nat.add_zero, Nat.zero_add, Nat.sub_self, Nat.sub_zero] <;> rfl)) (hh : iT hb ρ hs' = hb' := by (simp only [iT, dV, iK, oD, Blk.rn, V.rns, V.rn, sg, List.map_cons, List.map_nil, Option.map_some, Option.map_none, List.drop_succ_cons, List.drop_zero, List.drop_nil, List.set_cons_zero, List.set_cons_succ, List.cons_append, List.nil_append, List.append_nil, iF, iJ, tS, tL, iH, iD, dC, c9, dJ, dK, eT, eP, d9, d8, lZ, fJ, fF, o8, pF, mE, mH, mO, qM, oL, List.getElem?_cons_zero, List.getElem?_cons_succ, List.getElem?_nil, List.length_cons, List.length_nil, Nat.reduceAdd, Nat.reduceSub, Nat.add_zero, Nat.zero_add, Nat.sub_self, Nat.sub_zero] <;> rfl)) (hF : dN F f = false := by rfl) (hG : dN G f = true → ∃ news, hb' = hb ++ news := by first | exact (fun _ => ⟨_, rfl⟩) | exact (fun _ => ⟨[], (List.append_nil _).symm⟩) | exact (fun h => absurd h (by decide))) (hg : Gd ops n fr gd := by exact gD) : OpsX Tryz.prog N (some (F, G)) ops (⟨some t, .call ⟨.value (.func f), ws.toArray, ts⟩, ty, pos, aft, gd⟩ :: l) (aG n fr) hb K := xG hw (Vm.Fn.lendR hc ρ β hnd hlt hdis hl hx hrf hrb hr hh) k hF hG hg
theorem xp {f : FuncId} {hb : Hp} {args xs : List V} {r : V} {N n t : Nat} {ops : Array Oper} {l : List Oper} {fr : List (Nat × V)} {K : List V → Hp → Prop} {ty : TypeId} {pos : String} {aft : Array Edge} {ws : List Operand} {ts : Array TypeId} (hc : Vm.Fn Tryz.prog f [] args r []) (k : OpsX Tryz.prog N none ops l (aG n ((t, r) :: fr)) hb K) (hw : oT n fr ws = some xs := by rfl) (hx : V.les tM xs args := by repeat (first | exact V.les_refl _ _ | exact V.les_nil | apply V.les_cons | exact V.le_refl _ _ | exact V.le_nil | exact V.le_row | exact V.le_arr (fun _ => rfl) | apply V.le_agg)) (ha : V.rns (sg [] hb.length) args = args := by first | rfl | (simp only [V.rn, V.rns, iF, iJ] <;> rfl)) (hr : r.rn (sg [] hb.length) = r := by first | rfl | (simp only [V.rn, V.rns, iF, iJ] <;> rfl)) : OpsX Tryz.prog N none ops (⟨some t, .call ⟨.value (.func f), ws.toArray, ts⟩, ty, pos, aft, none⟩ :: l) (aG n fr) hb K := xC hw (Vm.Fn.argsLe (Vm.Fn.pure hc ha hr) hx) k
theorem xu {f : FuncId} {hb : Hp} {args xs : List V} {r : V} {N n t : Nat} {ops : Array Oper} {l : List Oper} {fr : List (Nat × V)} {K : List V → Hp → Prop} {ty : TypeId} {pos : String} {aft : Array Edge} {ws : List Operand} {ts : Array TypeId} {F G : List Nat} {gd : Option (Nat × Bool)} (hc : Vm.Fn Tryz.prog f [] args r []) (k : OpsX Tryz.prog N (some (F, G)) ops l (aG n ((t, r) :: fr)) hb K) (hw : oT n fr ws = some xs := by rfl) (hx : V.les tM xs args := by repeat (first | exact V.les_refl _ _ | exact V.les_nil | apply V.les_cons | exact V.le_refl _ _ | exact V.le_nil | exact V.le_row | exact V.le_arr (fun _ => rfl) | apply V.le_agg)) (ha : ∀ L, V.rns (sg [] L) args = args := by (intro L; first | rfl | (simp only [V.rn, V.rns, iF, iJ] <;> rfl))) (hr : ∀ L, r.rn (sg [] L) = r := by (intro L; first | rfl | (simp only [V.rn, V.rns, iF, iJ] <;> rfl))) (hG : dN G f = false := by rfl) (hg : Gd ops n fr gd := by exact gD) : OpsX Tryz.prog N (some (F, G)) ops (⟨some t, .call ⟨.value (.func f), ws.toArray, ts⟩, ty, pos, aft, gd⟩ :: l) (aG n fr) hb K := xU hw (fun _ => Vm.Fn.argsLe (Vm.Fn.pure hc (ha _) (hr _)) hx) k hG hg
end Go.Proofs.YtnoklhehodlkaaaGreatDoor
