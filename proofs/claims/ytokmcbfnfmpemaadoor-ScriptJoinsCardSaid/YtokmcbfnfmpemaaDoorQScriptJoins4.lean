/- Texts of ours, joined: PlainU1, PlainU2, PlainU3, PlainU4, PlainH1, PlainH2, PlainC1, PlainC2, PlainC3, PlainC4, PlainC5, PlainC6, PlainL, PlainJ, TyF. -/
import Derived.Test.YtokmcbfnfmpemaaDoorQScriptJoins3
set_option linter.unusedSimpArgs false
set_option linter.unusedVariables false
set_option linter.unusedSectionVars false
namespace Go.Proofs.YtokmcbfnfmpemaaDoor
open Go Go.Vm
def w4 (a b c d : Nat) : List Int := [(a : Int), (b : Int), (c : Int), (d : Int)]
def vl (a b c d : Nat) : Nat := a + 18446744073709551616 * b + 340282366920938463463374607431768211456 * c + 6277101735386680763835789423207666416102355444464034512896 * d
def U (n : Nat) : List Int := w4 (n % 18446744073709551616) (n / 18446744073709551616 % 18446744073709551616) (n / 340282366920938463463374607431768211456 % 18446744073709551616) (n / 6277101735386680763835789423207666416102355444464034512896 % 18446744073709551616)
theorem w4_len (a b c d : Nat) : (w4 a b c d).length = 4 := rfl
theorem U_len (n : Nat) : (U n).length = 4 := rfl
theorem w4_U {a b c d : Nat} (ha : a < 18446744073709551616) (hb : b < 18446744073709551616) (hc : c < 18446744073709551616) (hd : d < 18446744073709551616) : w4 a b c d = U (vl a b c d) := by
  unfold U vl
  have h0 : (a + 18446744073709551616 * b + 340282366920938463463374607431768211456 * c + 6277101735386680763835789423207666416102355444464034512896 * d) % 18446744073709551616 = a := by omega
  have h1 : (a + 18446744073709551616 * b + 340282366920938463463374607431768211456 * c + 6277101735386680763835789423207666416102355444464034512896 * d) / 18446744073709551616 % 18446744073709551616 = b := by omega
  have h2 : (a + 18446744073709551616 * b + 340282366920938463463374607431768211456 * c + 6277101735386680763835789423207666416102355444464034512896 * d) / 340282366920938463463374607431768211456 % 18446744073709551616 = c := by omega
  have h3 : (a + 18446744073709551616 * b + 340282366920938463463374607431768211456 * c + 6277101735386680763835789423207666416102355444464034512896 * d) / 6277101735386680763835789423207666416102355444464034512896 % 18446744073709551616 = d := by omega
  rw [h0, h1, h2, h3]
theorem U_ex {n : Nat} (h : n < 115792089237316195423570985008687907853269984665640564039457584007913129639936) : ∃ a b c d, a < 18446744073709551616 ∧ b < 18446744073709551616 ∧ c < 18446744073709551616 ∧ d < 18446744073709551616 ∧ U n = w4 a b c d ∧ n = vl a b c d := by
  refine ⟨n % 18446744073709551616, n / 18446744073709551616 % 18446744073709551616, n / 340282366920938463463374607431768211456 % 18446744073709551616, n / 6277101735386680763835789423207666416102355444464034512896 % 18446744073709551616, by omega, by omega, by omega, by omega, rfl, ?_⟩
  unfold vl
  omega
theorem vl_lt {a b c d : Nat} (ha : a < 18446744073709551616) (hb : b < 18446744073709551616) (hc : c < 18446744073709551616) (hd : d < 18446744073709551616) : vl a b c d < 115792089237316195423570985008687907853269984665640564039457584007913129639936 := by unfold vl; omega
def Wd (l : List Int) : Prop := l.length = 4 ∧ ∀ x ∈ l, 0 ≤ x ∧ x < 18446744073709551616
theorem Wd.ex {l : List Int} (h : Wd l) : ∃ n, n < 115792089237316195423570985008687907853269984665640564039457584007913129639936 ∧ l = U n := by
  obtain ⟨hl, hx⟩ := h
  match l, hl, hx with
  | [a, b, c, d], _, hx =>
    have ha := hx a (by simp)
    have hb := hx b (by simp)
    have hc := hx c (by simp)
    have hd := hx d (by simp)
    refine ⟨vl a.toNat b.toNat c.toNat d.toNat, vl_lt (by omega) (by omega) (by omega) (by omega), ?_⟩
    rw [← w4_U (by omega) (by omega) (by omega) (by omega)]
    unfold w4
    rw [Int.toNat_of_nonneg ha.1, Int.toNat_of_nonneg hb.1, Int.toNat_of_nonneg hc.1, Int.toNat_of_nonneg hd.1]
theorem U_Wd (n : Nat) : Wd (U n) := by
  refine ⟨rfl, fun x hx => ?_⟩
  simp only [U, w4, List.mem_cons, List.not_mem_nil, or_false] at hx
  rcases hx with rfl | rfl | rfl | rfl <;> omega
theorem U_inj {a b : Nat} (ha : a < 115792089237316195423570985008687907853269984665640564039457584007913129639936) (hb : b < 115792089237316195423570985008687907853269984665640564039457584007913129639936) (h : U a = U b) : a = b := by
  simp only [U, w4, List.cons.injEq, and_true] at h
  omega
theorem U_beq {a b : Nat} (ha : a < 115792089237316195423570985008687907853269984665640564039457584007913129639936) (hb : b < 115792089237316195423570985008687907853269984665640564039457584007913129639936) : (U a == U b) = decide (a = b) := by
  by_cases h : a = b
  · subst h; simp
  · rw [decide_eq_false h]
    apply beq_eq_false_iff_ne.2
    exact fun e => h (U_inj ha hb e)
theorem U_zero : U 0 = [0, 0, 0, 0] := rfl
theorem a40 (a b c d : Nat) : aix 4 (w4 a b c d) 0 = some (a : Int) := rfl
theorem a41 (a b c d : Nat) : aix 4 (w4 a b c d) 1 = some (b : Int) := rfl
theorem a42 (a b c d : Nat) : aix 4 (w4 a b c d) 2 = some (c : Int) := rfl
theorem a43 (a b c d : Nat) : aix 4 (w4 a b c d) 3 = some (d : Int) := rfl
theorem arr4 (a b c d : Nat) : arr 4 (w4 a b c d) = some (w4 a b c d) := rfl
theorem arrU (n : Nat) : arr 4 (U n) = some (U n) := rfl
theorem q40 (a b c d : Int) : aix 4 [a, b, c, d] 0 = some a := rfl
theorem q41 (a b c d : Int) : aix 4 [a, b, c, d] 1 = some b := rfl
theorem q42 (a b c d : Int) : aix 4 [a, b, c, d] 2 = some c := rfl
theorem q43 (a b c d : Int) : aix 4 [a, b, c, d] 3 = some d := rfl
theorem t40 (a b c d x : Int) : [a, b, c, d].set (Int.toNat 0) x = [x, b, c, d] := rfl
theorem t41 (a b c d x : Int) : [a, b, c, d].set (Int.toNat 1) x = [a, x, c, d] := rfl
theorem t42 (a b c d x : Int) : [a, b, c, d].set (Int.toNat 2) x = [a, b, x, d] := rfl
theorem t43 (a b c d x : Int) : [a, b, c, d].set (Int.toNat 3) x = [a, b, c, x] := rfl
theorem r40 : List.replicate 4 (0 : Int) = [0, 0, 0, 0] := rfl
theorem w4_def (a b c d : Nat) : w4 a b c d = [(a : Int), (b : Int), (c : Int), (d : Int)] := rfl
theorem d04 : decide ((0 : Int) < 4) = true := rfl
theorem d14 : decide ((1 : Int) < 4) = true := rfl
theorem d24 : decide ((2 : Int) < 4) = true := rfl
theorem d34 : decide ((3 : Int) < 4) = true := rfl
theorem d44 : decide ((4 : Int) < 4) = false := rfl
theorem i01 : IntKind.i64.wrap (0 + 1) = 1 := by decide +kernel
theorem i12 : IntKind.i64.wrap (1 + 1) = 2 := by decide +kernel
theorem i23 : IntKind.i64.wrap (2 + 1) = 3 := by decide +kernel
theorem i34 : IntKind.i64.wrap (3 + 1) = 4 := by decide +kernel
theorem i32 : IntKind.i64.wrap (3 - 1) = 2 := by decide +kernel
theorem i21 : IntKind.i64.wrap (2 - 1) = 1 := by decide +kernel
theorem i10 : IntKind.i64.wrap (1 - 1) = 0 := by decide +kernel
theorem i0m : IntKind.i64.wrap (0 - 1) = -1 := by decide +kernel
theorem fuel5 {α : Type} (f : Nat → α) {N : Nat} (h : 70000 ≤ N) : ∃ m, f N = f (m + 1 + 1 + 1 + 1 + 1) := ⟨N - 5, by congr 1; omega⟩
theorem add64_ex {x y c : Nat} (hx : x < 18446744073709551616) (hy : y < 18446744073709551616) (hc : c ≤ 1) : ∃ s k : Nat, add64 (x : Int) (y : Int) (c : Int) = some ((s : Int), (k : Int)) ∧ x + y + c = s + 18446744073709551616 * k ∧ s < 18446744073709551616 ∧ k ≤ 1 := by
  refine ⟨(x + y + c) % 18446744073709551616, (x + y + c) / 18446744073709551616, ?_, by omega, by omega, by omega⟩
  unfold add64
  simp only [Int.toNat_natCast]
  rw [if_pos hc]
theorem sub64_ex {x y c : Nat} (hx : x < 18446744073709551616) (hy : y < 18446744073709551616) (hc : c ≤ 1) : ∃ s k : Nat, sub64 (x : Int) (y : Int) (c : Int) = some ((s : Int), (k : Int)) ∧ x + 18446744073709551616 * k = y + c + s ∧ s < 18446744073709551616 ∧ k ≤ 1 := by
  refine ⟨(x + 18446744073709551616 - y - c) % 18446744073709551616, if x < y + c then 1 else 0, ?_, ?_, by omega, ?_⟩
  · unfold sub64
    simp only [Int.toNat_natCast]
    rw [if_pos hc]
  · split <;> omega
  · split <;> omega
theorem Add_ex {N : Nat} (hN : 70000 ≤ N) {a0 a1 a2 a3 b0 b1 b2 b3 : Nat} (ha0 : a0 < 18446744073709551616) (ha1 : a1 < 18446744073709551616) (ha2 : a2 < 18446744073709551616) (ha3 : a3 < 18446744073709551616) (hb0 : b0 < 18446744073709551616) (hb1 : b1 < 18446744073709551616) (hb2 : b2 < 18446744073709551616) (hb3 : b3 < 18446744073709551616) :
    ∃ s0 s1 s2 s3 k : Nat, wide_Add N (w4 a0 a1 a2 a3) (w4 b0 b1 b2 b3) = some (w4 s0 s1 s2 s3, ((k : Int) != 0)) ∧ vl a0 a1 a2 a3 + vl b0 b1 b2 b3 = vl s0 s1 s2 s3 + 115792089237316195423570985008687907853269984665640564039457584007913129639936 * k ∧ s0 < 18446744073709551616 ∧ s1 < 18446744073709551616 ∧ s2 < 18446744073709551616 ∧ s3 < 18446744073709551616 ∧ k ≤ 1 := by
  obtain ⟨s0, k0, e0, f0, g0, l0⟩ := add64_ex ha0 hb0 (Nat.zero_le 1)
  obtain ⟨s1, k1, e1, f1, g1, l1⟩ := add64_ex ha1 hb1 l0
  obtain ⟨s2, k2, e2, f2, g2, l2⟩ := add64_ex ha2 hb2 l1
  obtain ⟨s3, k3, e3, f3, g3, l3⟩ := add64_ex ha3 hb3 l2
  refine ⟨s0, s1, s2, s3, k3, ?_, by unfold vl; omega, g0, g1, g2, g3, l3⟩
  obtain ⟨m, hm⟩ := fuel5 (fun q => wide_Add_L2 N (w4 a0 a1 a2 a3) (w4 b0 b1 b2 b3) q 0 0 (List.replicate 4 0)) hN
  unfold wide_Add
  rw [hm]
  have e0' : add64 (a0 : Int) (b0 : Int) 0 = some ((s0 : Int), (k0 : Int)) := e0
  simp only [wide_Add_L2, math_bits_Add64, a40, a41, a42, a43, q40, q41, q42, q43, t40, t41, t42, t43, r40, i01, i12, i23, i34, d04, d14, d24, d34, d44, if_true, Bool.false_eq_true, if_false, Option.bind_some, e0', e1, e2, e3, wide_Add_J1]
  rfl
theorem Add_U {N : Nat} (hN : 70000 ≤ N) {a b : Nat} (ha : a < 115792089237316195423570985008687907853269984665640564039457584007913129639936) (hb : b < 115792089237316195423570985008687907853269984665640564039457584007913129639936) : wide_Add N (U a) (U b) = some (U ((a + b) % 115792089237316195423570985008687907853269984665640564039457584007913129639936), decide (115792089237316195423570985008687907853269984665640564039457584007913129639936 ≤ a + b)) := by
  obtain ⟨a0, a1, a2, a3, x0, x1, x2, x3, ea, va⟩ := U_ex ha
  obtain ⟨b0, b1, b2, b3, y0, y1, y2, y3, eb, vb⟩ := U_ex hb
  obtain ⟨s0, s1, s2, s3, k, h1, h2, z0, z1, z2, z3, hk⟩ := Add_ex hN x0 x1 x2 x3 y0 y1 y2 y3
  have hv := vl_lt z0 z1 z2 z3
  rw [ea, eb, h1, w4_U z0 z1 z2 z3, show (a + b) % 115792089237316195423570985008687907853269984665640564039457584007913129639936 = vl s0 s1 s2 s3 by omega]
  congr 2
  by_cases h : 115792089237316195423570985008687907853269984665640564039457584007913129639936 ≤ a + b
  · rw [decide_eq_true h, show k = 1 by omega]; rfl
  · rw [decide_eq_false h, show k = 0 by omega]; rfl
theorem Sub_ex {N : Nat} (hN : 70000 ≤ N) {a0 a1 a2 a3 b0 b1 b2 b3 : Nat} (ha0 : a0 < 18446744073709551616) (ha1 : a1 < 18446744073709551616) (ha2 : a2 < 18446744073709551616) (ha3 : a3 < 18446744073709551616) (hb0 : b0 < 18446744073709551616) (hb1 : b1 < 18446744073709551616) (hb2 : b2 < 18446744073709551616) (hb3 : b3 < 18446744073709551616) :
    ∃ s0 s1 s2 s3 k : Nat, wide_Sub N (w4 a0 a1 a2 a3) (w4 b0 b1 b2 b3) = some (w4 s0 s1 s2 s3, ((k : Int) != 0)) ∧ vl a0 a1 a2 a3 + 115792089237316195423570985008687907853269984665640564039457584007913129639936 * k = vl b0 b1 b2 b3 + vl s0 s1 s2 s3 ∧ s0 < 18446744073709551616 ∧ s1 < 18446744073709551616 ∧ s2 < 18446744073709551616 ∧ s3 < 18446744073709551616 ∧ k ≤ 1 := by
  obtain ⟨s0, k0, e0, f0, g0, l0⟩ := sub64_ex ha0 hb0 (Nat.zero_le 1)
  obtain ⟨s1, k1, e1, f1, g1, l1⟩ := sub64_ex ha1 hb1 l0
  obtain ⟨s2, k2, e2, f2, g2, l2⟩ := sub64_ex ha2 hb2 l1
  obtain ⟨s3, k3, e3, f3, g3, l3⟩ := sub64_ex ha3 hb3 l2
  refine ⟨s0, s1, s2, s3, k3, ?_, by unfold vl; omega, g0, g1, g2, g3, l3⟩
  obtain ⟨m, hm⟩ := fuel5 (fun q => wide_Sub_L2 N (w4 a0 a1 a2 a3) (w4 b0 b1 b2 b3) q 0 0 (List.replicate 4 0)) hN
  unfold wide_Sub
  rw [hm]
  have e0' : sub64 (a0 : Int) (b0 : Int) 0 = some ((s0 : Int), (k0 : Int)) := e0
  simp only [wide_Sub_L2, math_bits_Sub64, a40, a41, a42, a43, q40, q41, q42, q43, t40, t41, t42, t43, r40, i01, i12, i23, i34, d04, d14, d24, d34, d44, if_true, Bool.false_eq_true, if_false, Option.bind_some, e0', e1, e2, e3, wide_Sub_J1]
  rfl
theorem Sub_U {N : Nat} (hN : 70000 ≤ N) {a b : Nat} (ha : a < 115792089237316195423570985008687907853269984665640564039457584007913129639936) (hb : b < 115792089237316195423570985008687907853269984665640564039457584007913129639936) : wide_Sub N (U a) (U b) = some (U ((a + 115792089237316195423570985008687907853269984665640564039457584007913129639936 - b) % 115792089237316195423570985008687907853269984665640564039457584007913129639936), decide (a < b)) := by
  obtain ⟨a0, a1, a2, a3, x0, x1, x2, x3, ea, va⟩ := U_ex ha
  obtain ⟨b0, b1, b2, b3, y0, y1, y2, y3, eb, vb⟩ := U_ex hb
  obtain ⟨s0, s1, s2, s3, k, h1, h2, z0, z1, z2, z3, hk⟩ := Sub_ex hN x0 x1 x2 x3 y0 y1 y2 y3
  have hv := vl_lt z0 z1 z2 z3
  rw [ea, eb, h1, w4_U z0 z1 z2 z3, show (a + 115792089237316195423570985008687907853269984665640564039457584007913129639936 - b) % 115792089237316195423570985008687907853269984665640564039457584007913129639936 = vl s0 s1 s2 s3 by omega]
  congr 2
  by_cases h : a < b
  · rw [decide_eq_true h, show k = 1 by omega]; rfl
  · rw [decide_eq_false h, show k = 0 by omega]; rfl
theorem Cmp_U {N : Nat} (hN : 70000 ≤ N) {a b : Nat} (ha : a < 115792089237316195423570985008687907853269984665640564039457584007913129639936) (hb : b < 115792089237316195423570985008687907853269984665640564039457584007913129639936) : wide_Cmp N (U a) (U b) = some (if a < b then -1 else if b < a then 1 else 0) := by
  obtain ⟨a0, a1, a2, a3, x0, x1, x2, x3, ea, va⟩ := U_ex ha
  obtain ⟨b0, b1, b2, b3, y0, y1, y2, y3, eb, vb⟩ := U_ex hb
  rw [ea, eb]
  obtain ⟨m, hm⟩ := fuel5 (fun q => wide_Cmp_L2 N (w4 a0 a1 a2 a3) (w4 b0 b1 b2 b3) q 3) hN
  unfold wide_Cmp
  rw [hm]
  unfold vl at va vb
  simp only [wide_Cmp_L2, a40, a41, a42, a43, i32, i21, i10, i0m, show decide ((0 : Int) ≤ 3) = true from rfl, show decide ((0 : Int) ≤ 2) = true from rfl, show decide ((0 : Int) ≤ 1) = true from rfl, show decide ((0 : Int) ≤ 0) = true from rfl, show decide ((0 : Int) ≤ -1) = false from rfl, if_true, Bool.false_eq_true, if_false, Option.bind_some, wide_Cmp_J1, decide_eq_true_eq, Int.ofNat_lt]
  by_cases c3 : a3 < b3
  · rw [if_pos c3, if_pos (by omega)]; rfl
  · rw [if_neg c3]
    by_cases d3 : b3 < a3
    · rw [if_pos d3, if_neg (by omega), if_pos (by omega)]; rfl
    · rw [if_neg d3]
      by_cases c2 : a2 < b2
      · rw [if_pos c2, if_pos (by omega)]; rfl
      · rw [if_neg c2]
        by_cases d2 : b2 < a2
        · rw [if_pos d2, if_neg (by omega), if_pos (by omega)]; rfl
        · rw [if_neg d2]
          by_cases c1 : a1 < b1
          · rw [if_pos c1, if_pos (by omega)]; rfl
          · rw [if_neg c1]
            by_cases d1 : b1 < a1
            · rw [if_pos d1, if_neg (by omega), if_pos (by omega)]; rfl
            · rw [if_neg d1]
              by_cases c0 : a0 < b0
              · rw [if_pos c0, if_pos (by omega)]; rfl
              · rw [if_neg c0]
                by_cases d0 : b0 < a0
                · rw [if_pos d0, if_neg (by omega), if_pos (by omega)]; rfl
                · rw [if_neg d0, if_neg (by omega), if_neg (by omega)]; rfl
theorem dbl_ex {x l : Nat} (hx : x < 18446744073709551616) (hl : l ≤ 1) : ∃ y s k : Nat, shl .u64 (x : Int) 1 = some (y : Int) ∧ shr .u64 (x : Int) 63 = some (k : Int) ∧ bits .or .u64 (y : Int) (l : Int) = (s : Int) ∧ 2 * x + l = s + 18446744073709551616 * k ∧ s < 18446744073709551616 ∧ k ≤ 1 := by
  have h1 : x * 2 ^ 1 % 18446744073709551616 = (x % 9223372036854775808) * 2 ^ 1 := by omega
  refine ⟨x * 2 ^ 1 % 18446744073709551616, (x % 9223372036854775808) * 2 ^ 1 + l, x / 9223372036854775808, shl_nat rfl x 1, shr_nat x 63 hx, ?_, by omega, by omega, by omega⟩
  rw [bits_or_nat rfl _ _ (show x * 2 ^ 1 % 18446744073709551616 < 2 ^ 64 by omega) (show l < 2 ^ 64 by omega), h1]
  congr 1
  rw [Nat.mul_comm, ← Nat.two_pow_add_eq_or_of_lt (show l < 2 ^ 1 by omega)]
theorem Dbl_U {N : Nat} (hN : 70000 ≤ N) {a l : Nat} (ha : a < 115792089237316195423570985008687907853269984665640564039457584007913129639936) (hl : l ≤ 1) : ∃ k : Nat, wide_double N (U a) (l : Int) = some (U ((2 * a + l) % 115792089237316195423570985008687907853269984665640564039457584007913129639936), (k : Int)) ∧ k = (2 * a + l) / 115792089237316195423570985008687907853269984665640564039457584007913129639936 := by
  obtain ⟨a0, a1, a2, a3, x0, x1, x2, x3, ea, va⟩ := U_ex ha
  obtain ⟨y0, s0, k0, e0, f0, g0, h0, j0, l0⟩ := dbl_ex x0 hl
  obtain ⟨y1, s1, k1, e1, f1, g1, h1, j1, l1⟩ := dbl_ex x1 l0
  obtain ⟨y2, s2, k2, e2, f2, g2, h2, j2, l2⟩ := dbl_ex x2 l1
  obtain ⟨y3, s3, k3, e3, f3, g3, h3, j3, l3⟩ := dbl_ex x3 l2
  unfold vl at va
  have hv := vl_lt j0 j1 j2 j3
  have hvv : 2 * a + l = vl s0 s1 s2 s3 + 115792089237316195423570985008687907853269984665640564039457584007913129639936 * k3 := by unfold vl; omega
  refine ⟨k3, ?_, by omega⟩
  rw [ea, show (2 * a + l) % 115792089237316195423570985008687907853269984665640564039457584007913129639936 = vl s0 s1 s2 s3 by omega, ← w4_U j0 j1 j2 j3]
  obtain ⟨m, hm⟩ := fuel5 (fun q => wide_double_L2 N q (l : Int) 0 (w4 a0 a1 a2 a3)) hN
  unfold wide_double
  rw [hm]
  simp only [wide_double_L2, w4_def, q40, q41, q42, q43, t40, t41, t42, t43, i01, i12, i23, i34, d04, d14, d24, d34, d44, if_true, Bool.false_eq_true, if_false, Option.bind_some, e0, f0, g0, e1, f1, g1, e2, f2, g2, e3, f3, g3, wide_double_J1]
  rfl
end Go.Proofs.YtokmcbfnfmpemaaDoor
set_option linter.unusedSimpArgs false
set_option linter.unusedVariables false
set_option linter.unusedSectionVars false
namespace Go.Proofs.YtokmcbfnfmpemaaDoor
open Go Go.Vm
theorem um {a b : Nat} (h : a * b < 18446744073709551616) : IntKind.u64.wrap ((a : Int) * (b : Int)) = ((a * b : Nat) : Int) := by rw [← Int.natCast_mul, wu64 (by omega) (by omega)]
theorem up {a b : Nat} (h : a + b < 18446744073709551616) : IntKind.u64.wrap ((a : Int) + (b : Int)) = ((a + b : Nat) : Int) := by rw [← Int.natCast_add, wu64 (by omega) (by omega)]
theorem and32 {x : Nat} (h : x < 18446744073709551616) : bits .and .u64 (x : Int) 4294967295 = ((x % 4294967296 : Nat) : Int) := by
  rw [show (4294967295 : Int) = ((4294967295 : Nat) : Int) from rfl, bits_and_nat (k := .u64) rfl x _ (show x < 2 ^ 64 from h) (by decide), show 4294967295 = 2 ^ 32 - 1 from rfl, Nat.and_two_pow_sub_one_eq_mod]
theorem shr32u {x : Nat} (h : x < 18446744073709551616) : shr .u64 (x : Int) 32 = some ((x / 4294967296 : Nat) : Int) := shr_nat x 32 h
theorem mul64_ex {N x y : Nat} (hx : x < 18446744073709551616) (hy : y < 18446744073709551616) : ∃ h l : Nat, math_bits_Mul64 N (x : Int) (y : Int) = some ((h : Int), (l : Int)) ∧ x * y = l + 18446744073709551616 * h ∧ l < 18446744073709551616 ∧ h < 18446744073709551616 := by
  have x0 : x % 4294967296 ≤ 4294967295 := by omega
  have y0 : y % 4294967296 ≤ 4294967295 := by omega
  have x1 : x / 4294967296 ≤ 4294967295 := by omega
  have y1 : y / 4294967296 ≤ 4294967295 := by omega
  have ex : x = 4294967296 * (x / 4294967296) + x % 4294967296 := by omega
  have ey : y = 4294967296 * (y / 4294967296) + y % 4294967296 := by omega
  have lo : IntKind.u64.wrap ((x : Int) * (y : Int)) = ((x * y % 18446744073709551616 : Nat) : Int) := by rw [← Int.natCast_mul, IntKind.wrap_u64]; omega
  unfold math_bits_Mul64
  rw [and32 hx, and32 hy, shr32u hx, shr32u hy, lo]
  simp only [Option.bind_some]
  generalize x / 4294967296 = u1 at *
  generalize x % 4294967296 = u0 at *
  generalize y / 4294967296 = v1 at *
  generalize y % 4294967296 = v0 at *
  have p00 := Nat.mul_le_mul x0 y0
  have p10 := Nat.mul_le_mul x1 y0
  have p01 := Nat.mul_le_mul x0 y1
  have p11 := Nat.mul_le_mul x1 y1
  have hxy : x * y = 18446744073709551616 * (u1 * v1) + 4294967296 * (u1 * v0) + 4294967296 * (u0 * v1) + u0 * v0 := by
    rw [ex, ey, Nat.add_mul, Nat.mul_add, Nat.mul_add, Nat.mul_mul_mul_comm, Nat.mul_assoc 4294967296 u1 v0, Nat.mul_left_comm u0 4294967296 v1]
    omega
  rw [um (a := u0) (b := v0) (by omega), um (a := u1) (b := v0) (by omega), um (a := u0) (b := v1) (by omega), um (a := u1) (b := v1) (by omega)]
  clear ex ey lo
  generalize u0 * v0 = q00 at *
  generalize u1 * v0 = q10 at *
  generalize u0 * v1 = q01 at *
  generalize u1 * v1 = q11 at *
  rw [shr32u (x := q00) (by omega)]
  simp only [Option.bind_some]
  rw [up (a := q10) (by omega), shr32u (x := q10 + q00 / 4294967296) (by omega), and32 (x := q10 + q00 / 4294967296) (by omega)]
  simp only [Option.bind_some]
  rw [up (a := (q10 + q00 / 4294967296) % 4294967296) (by omega), shr32u (x := (q10 + q00 / 4294967296) % 4294967296 + q01) (by omega)]
  simp only [Option.bind_some]
  rw [up (a := q11) (by omega), up (a := q11 + (q10 + q00 / 4294967296) / 4294967296) (by omega)]
  exact ⟨_, _, rfl, by omega, by omega, by omega⟩
theorem mstep {N A b w c : Nat} (hA : A < 18446744073709551616) (hb : b < 18446744073709551616) (hw : w < 18446744073709551616) (hc : c < 18446744073709551616) : ∃ h l s k s' k' d : Nat, math_bits_Mul64 N (A : Int) (b : Int) = some ((h : Int), (l : Int)) ∧ add64 (l : Int) (w : Int) 0 = some ((s : Int), (k : Int)) ∧ add64 (s : Int) (c : Int) 0 = some ((s' : Int), (k' : Int)) ∧
    IntKind.u64.wrap (IntKind.u64.wrap ((h : Int) + (k : Int)) + (k' : Int)) = (d : Int) ∧ A * b + w + c = s' + 18446744073709551616 * d ∧ s' < 18446744073709551616 ∧ d < 18446744073709551616 := by
  obtain ⟨h, l, e1, f1, l1, h1⟩ := mul64_ex (N := N) hA hb
  obtain ⟨s, k, e2, f2, l2, h2⟩ := add64_ex l1 hw (Nat.zero_le 1)
  obtain ⟨s', k', e3, f3, l3, h3⟩ := add64_ex l2 hc (Nat.zero_le 1)
  have hP := Nat.mul_le_mul (Nat.le_pred_of_lt hA) (Nat.le_pred_of_lt hb)
  simp only [Nat.pred_eq_sub_one, Nat.reduceSub, Nat.reduceMul] at hP
  have hd : h + k + k' < 18446744073709551616 := by omega
  refine ⟨h, l, s, k, s', k', h + k + k', e1, e2, e3, ?_, by omega, l3, hd⟩
  rw [up (by omega), up (by omega)]
theorem q80 (a b c d e f g h : Int) : aix 8 [a, b, c, d, e, f, g, h] 0 = some a := rfl
theorem q81 (a b c d e f g h : Int) : aix 8 [a, b, c, d, e, f, g, h] 1 = some b := rfl
theorem q82 (a b c d e f g h : Int) : aix 8 [a, b, c, d, e, f, g, h] 2 = some c := rfl
theorem q83 (a b c d e f g h : Int) : aix 8 [a, b, c, d, e, f, g, h] 3 = some d := rfl
theorem q84 (a b c d e f g h : Int) : aix 8 [a, b, c, d, e, f, g, h] 4 = some e := rfl
theorem q85 (a b c d e f g h : Int) : aix 8 [a, b, c, d, e, f, g, h] 5 = some f := rfl
theorem q86 (a b c d e f g h : Int) : aix 8 [a, b, c, d, e, f, g, h] 6 = some g := rfl
theorem q87 (a b c d e f g h : Int) : aix 8 [a, b, c, d, e, f, g, h] 7 = some h := rfl
theorem t80 (a b c d e f g h x : Int) : [a, b, c, d, e, f, g, h].set (Int.toNat 0) x = [x, b, c, d, e, f, g, h] := rfl
theorem t81 (a b c d e f g h x : Int) : [a, b, c, d, e, f, g, h].set (Int.toNat 1) x = [a, x, c, d, e, f, g, h] := rfl
theorem t82 (a b c d e f g h x : Int) : [a, b, c, d, e, f, g, h].set (Int.toNat 2) x = [a, b, x, d, e, f, g, h] := rfl
theorem t83 (a b c d e f g h x : Int) : [a, b, c, d, e, f, g, h].set (Int.toNat 3) x = [a, b, c, x, e, f, g, h] := rfl
theorem t84 (a b c d e f g h x : Int) : [a, b, c, d, e, f, g, h].set (Int.toNat 4) x = [a, b, c, d, x, f, g, h] := rfl
theorem t85 (a b c d e f g h x : Int) : [a, b, c, d, e, f, g, h].set (Int.toNat 5) x = [a, b, c, d, e, x, g, h] := rfl
theorem t86 (a b c d e f g h x : Int) : [a, b, c, d, e, f, g, h].set (Int.toNat 6) x = [a, b, c, d, e, f, x, h] := rfl
theorem t87 (a b c d e f g h x : Int) : [a, b, c, d, e, f, g, h].set (Int.toNat 7) x = [a, b, c, d, e, f, g, x] := rfl
theorem x00 : IntKind.i64.wrap (0 + 0) = 0 := by decide +kernel
theorem x01 : IntKind.i64.wrap (0 + 1) = 1 := by decide +kernel
theorem x02 : IntKind.i64.wrap (0 + 2) = 2 := by decide +kernel
theorem x03 : IntKind.i64.wrap (0 + 3) = 3 := by decide +kernel
theorem x04 : IntKind.i64.wrap (0 + 4) = 4 := by decide +kernel
theorem x10 : IntKind.i64.wrap (1 + 0) = 1 := by decide +kernel
theorem x11 : IntKind.i64.wrap (1 + 1) = 2 := by decide +kernel
theorem x12 : IntKind.i64.wrap (1 + 2) = 3 := by decide +kernel
theorem x13 : IntKind.i64.wrap (1 + 3) = 4 := by decide +kernel
theorem x14 : IntKind.i64.wrap (1 + 4) = 5 := by decide +kernel
theorem x20 : IntKind.i64.wrap (2 + 0) = 2 := by decide +kernel
theorem x21 : IntKind.i64.wrap (2 + 1) = 3 := by decide +kernel
theorem x22 : IntKind.i64.wrap (2 + 2) = 4 := by decide +kernel
theorem x23 : IntKind.i64.wrap (2 + 3) = 5 := by decide +kernel
theorem x24 : IntKind.i64.wrap (2 + 4) = 6 := by decide +kernel
theorem x30 : IntKind.i64.wrap (3 + 0) = 3 := by decide +kernel
theorem x31 : IntKind.i64.wrap (3 + 1) = 4 := by decide +kernel
theorem x32 : IntKind.i64.wrap (3 + 2) = 5 := by decide +kernel
theorem x33 : IntKind.i64.wrap (3 + 3) = 6 := by decide +kernel
theorem x34 : IntKind.i64.wrap (3 + 4) = 7 := by decide +kernel
theorem Row0 {N : Nat} (hN : 70000 ≤ N) {va : List Int} {A b0 b1 b2 b3 w0 w1 w2 w3 w4' w5 w6 w7 : Nat} (hA : aix 4 va 0 = some (A : Int)) (gA : A < 18446744073709551616) (g0 : b0 < 18446744073709551616) (g1 : b1 < 18446744073709551616) (g2 : b2 < 18446744073709551616) (g3 : b3 < 18446744073709551616) (h0 : w0 < 18446744073709551616) (h1 : w1 < 18446744073709551616) (h2 : w2 < 18446744073709551616) (h3 : w3 < 18446744073709551616) :
    ∃ s0 s1 s2 s3 c : Nat, wide_Mul_L6 N va (w4 b0 b1 b2 b3) 0 N 0 0 [(w0 : Int), (w1 : Int), (w2 : Int), (w3 : Int), (w4' : Int), (w5 : Int), (w6 : Int), (w7 : Int)] = some ((c : Int), [(s0 : Int), (s1 : Int), (s2 : Int), (s3 : Int), (w4' : Int), (w5 : Int), (w6 : Int), (w7 : Int)]) ∧ vl w0 w1 w2 w3 + (A * b0 + 18446744073709551616 * (A * b1) + 340282366920938463463374607431768211456 * (A * b2) + 6277101735386680763835789423207666416102355444464034512896 * (A * b3)) = vl s0 s1 s2 s3 + 115792089237316195423570985008687907853269984665640564039457584007913129639936 * c ∧ s0 < 18446744073709551616 ∧ s1 < 18446744073709551616 ∧ s2 < 18446744073709551616 ∧ s3 < 18446744073709551616 ∧ c < 18446744073709551616 := by
  obtain ⟨hh0, ll0, ss0, kk0, s0, jj0, c0, e0, f0, m0, n0, v0, y0, z0⟩ := mstep (N := N) gA g0 h0 (show (0 : Nat) < 18446744073709551616 by omega)
  obtain ⟨hh1, ll1, ss1, kk1, s1, jj1, c1, e1, f1, m1, n1, v1, y1, z1⟩ := mstep (N := N) gA g1 h1 z0
  obtain ⟨hh2, ll2, ss2, kk2, s2, jj2, c2, e2, f2, m2, n2, v2, y2, z2⟩ := mstep (N := N) gA g2 h2 z1
  obtain ⟨hh3, ll3, ss3, kk3, s3, jj3, c3, e3, f3, m3, n3, v3, y3, z3⟩ := mstep (N := N) gA g3 h3 z2
  refine ⟨s0, s1, s2, s3, c3, ?_, by unfold vl; omega, y0, y1, y2, y3, z3⟩
  obtain ⟨m, hm⟩ := fuel5 (fun q => wide_Mul_L6 N va (w4 b0 b1 b2 b3) 0 q 0 0 [(w0 : Int), (w1 : Int), (w2 : Int), (w3 : Int), (w4' : Int), (w5 : Int), (w6 : Int), (w7 : Int)]) hN
  rw [hm]
  have m0' : add64 (ss0 : Int) 0 0 = some ((s0 : Int), (jj0 : Int)) := m0
  simp only [wide_Mul_L6, math_bits_Add64, hA, a40, a41, a42, a43, q80, q81, q82, q83, q84, q85, q86, q87, t80, t81, t82, t83, t84, t85, t86, t87, i01, i12, i23, i34, d04, d14, d24, d34, d44, x00, x01, x02, x03, x04, x10, x11, x12, x13, x14, x20, x21, x22, x23, x24, x30, x31, x32, x33, x34, if_true, Bool.false_eq_true, if_false, Option.bind_some, e0, e1, e2, e3, f0, f1, f2, f3, m0', m1, m2, m3, n0, n1, n2, n3]
theorem Row1 {N : Nat} (hN : 70000 ≤ N) {va : List Int} {A b0 b1 b2 b3 w0 w1 w2 w3 w4' w5 w6 w7 : Nat} (hA : aix 4 va 1 = some (A : Int)) (gA : A < 18446744073709551616) (g0 : b0 < 18446744073709551616) (g1 : b1 < 18446744073709551616) (g2 : b2 < 18446744073709551616) (g3 : b3 < 18446744073709551616) (h0 : w1 < 18446744073709551616) (h1 : w2 < 18446744073709551616) (h2 : w3 < 18446744073709551616) (h3 : w4' < 18446744073709551616) :
    ∃ s0 s1 s2 s3 c : Nat, wide_Mul_L6 N va (w4 b0 b1 b2 b3) 1 N 0 0 [(w0 : Int), (w1 : Int), (w2 : Int), (w3 : Int), (w4' : Int), (w5 : Int), (w6 : Int), (w7 : Int)] = some ((c : Int), [(w0 : Int), (s0 : Int), (s1 : Int), (s2 : Int), (s3 : Int), (w5 : Int), (w6 : Int), (w7 : Int)]) ∧ vl w1 w2 w3 w4' + (A * b0 + 18446744073709551616 * (A * b1) + 340282366920938463463374607431768211456 * (A * b2) + 6277101735386680763835789423207666416102355444464034512896 * (A * b3)) = vl s0 s1 s2 s3 + 115792089237316195423570985008687907853269984665640564039457584007913129639936 * c ∧ s0 < 18446744073709551616 ∧ s1 < 18446744073709551616 ∧ s2 < 18446744073709551616 ∧ s3 < 18446744073709551616 ∧ c < 18446744073709551616 := by
  obtain ⟨hh0, ll0, ss0, kk0, s0, jj0, c0, e0, f0, m0, n0, v0, y0, z0⟩ := mstep (N := N) gA g0 h0 (show (0 : Nat) < 18446744073709551616 by omega)
  obtain ⟨hh1, ll1, ss1, kk1, s1, jj1, c1, e1, f1, m1, n1, v1, y1, z1⟩ := mstep (N := N) gA g1 h1 z0
  obtain ⟨hh2, ll2, ss2, kk2, s2, jj2, c2, e2, f2, m2, n2, v2, y2, z2⟩ := mstep (N := N) gA g2 h2 z1
  obtain ⟨hh3, ll3, ss3, kk3, s3, jj3, c3, e3, f3, m3, n3, v3, y3, z3⟩ := mstep (N := N) gA g3 h3 z2
  refine ⟨s0, s1, s2, s3, c3, ?_, by unfold vl; omega, y0, y1, y2, y3, z3⟩
  obtain ⟨m, hm⟩ := fuel5 (fun q => wide_Mul_L6 N va (w4 b0 b1 b2 b3) 1 q 0 0 [(w0 : Int), (w1 : Int), (w2 : Int), (w3 : Int), (w4' : Int), (w5 : Int), (w6 : Int), (w7 : Int)]) hN
  rw [hm]
  have m0' : add64 (ss0 : Int) 0 0 = some ((s0 : Int), (jj0 : Int)) := m0
  simp only [wide_Mul_L6, math_bits_Add64, hA, a40, a41, a42, a43, q80, q81, q82, q83, q84, q85, q86, q87, t80, t81, t82, t83, t84, t85, t86, t87, i01, i12, i23, i34, d04, d14, d24, d34, d44, x00, x01, x02, x03, x04, x10, x11, x12, x13, x14, x20, x21, x22, x23, x24, x30, x31, x32, x33, x34, if_true, Bool.false_eq_true, if_false, Option.bind_some, e0, e1, e2, e3, f0, f1, f2, f3, m0', m1, m2, m3, n0, n1, n2, n3]
theorem Row2 {N : Nat} (hN : 70000 ≤ N) {va : List Int} {A b0 b1 b2 b3 w0 w1 w2 w3 w4' w5 w6 w7 : Nat} (hA : aix 4 va 2 = some (A : Int)) (gA : A < 18446744073709551616) (g0 : b0 < 18446744073709551616) (g1 : b1 < 18446744073709551616) (g2 : b2 < 18446744073709551616) (g3 : b3 < 18446744073709551616) (h0 : w2 < 18446744073709551616) (h1 : w3 < 18446744073709551616) (h2 : w4' < 18446744073709551616) (h3 : w5 < 18446744073709551616) :
    ∃ s0 s1 s2 s3 c : Nat, wide_Mul_L6 N va (w4 b0 b1 b2 b3) 2 N 0 0 [(w0 : Int), (w1 : Int), (w2 : Int), (w3 : Int), (w4' : Int), (w5 : Int), (w6 : Int), (w7 : Int)] = some ((c : Int), [(w0 : Int), (w1 : Int), (s0 : Int), (s1 : Int), (s2 : Int), (s3 : Int), (w6 : Int), (w7 : Int)]) ∧ vl w2 w3 w4' w5 + (A * b0 + 18446744073709551616 * (A * b1) + 340282366920938463463374607431768211456 * (A * b2) + 6277101735386680763835789423207666416102355444464034512896 * (A * b3)) = vl s0 s1 s2 s3 + 115792089237316195423570985008687907853269984665640564039457584007913129639936 * c ∧ s0 < 18446744073709551616 ∧ s1 < 18446744073709551616 ∧ s2 < 18446744073709551616 ∧ s3 < 18446744073709551616 ∧ c < 18446744073709551616 := by
  obtain ⟨hh0, ll0, ss0, kk0, s0, jj0, c0, e0, f0, m0, n0, v0, y0, z0⟩ := mstep (N := N) gA g0 h0 (show (0 : Nat) < 18446744073709551616 by omega)
  obtain ⟨hh1, ll1, ss1, kk1, s1, jj1, c1, e1, f1, m1, n1, v1, y1, z1⟩ := mstep (N := N) gA g1 h1 z0
  obtain ⟨hh2, ll2, ss2, kk2, s2, jj2, c2, e2, f2, m2, n2, v2, y2, z2⟩ := mstep (N := N) gA g2 h2 z1
  obtain ⟨hh3, ll3, ss3, kk3, s3, jj3, c3, e3, f3, m3, n3, v3, y3, z3⟩ := mstep (N := N) gA g3 h3 z2
  refine ⟨s0, s1, s2, s3, c3, ?_, by unfold vl; omega, y0, y1, y2, y3, z3⟩
  obtain ⟨m, hm⟩ := fuel5 (fun q => wide_Mul_L6 N va (w4 b0 b1 b2 b3) 2 q 0 0 [(w0 : Int), (w1 : Int), (w2 : Int), (w3 : Int), (w4' : Int), (w5 : Int), (w6 : Int), (w7 : Int)]) hN
  rw [hm]
  have m0' : add64 (ss0 : Int) 0 0 = some ((s0 : Int), (jj0 : Int)) := m0
  simp only [wide_Mul_L6, math_bits_Add64, hA, a40, a41, a42, a43, q80, q81, q82, q83, q84, q85, q86, q87, t80, t81, t82, t83, t84, t85, t86, t87, i01, i12, i23, i34, d04, d14, d24, d34, d44, x00, x01, x02, x03, x04, x10, x11, x12, x13, x14, x20, x21, x22, x23, x24, x30, x31, x32, x33, x34, if_true, Bool.false_eq_true, if_false, Option.bind_some, e0, e1, e2, e3, f0, f1, f2, f3, m0', m1, m2, m3, n0, n1, n2, n3]
theorem Row3 {N : Nat} (hN : 70000 ≤ N) {va : List Int} {A b0 b1 b2 b3 w0 w1 w2 w3 w4' w5 w6 w7 : Nat} (hA : aix 4 va 3 = some (A : Int)) (gA : A < 18446744073709551616) (g0 : b0 < 18446744073709551616) (g1 : b1 < 18446744073709551616) (g2 : b2 < 18446744073709551616) (g3 : b3 < 18446744073709551616) (h0 : w3 < 18446744073709551616) (h1 : w4' < 18446744073709551616) (h2 : w5 < 18446744073709551616) (h3 : w6 < 18446744073709551616) :
    ∃ s0 s1 s2 s3 c : Nat, wide_Mul_L6 N va (w4 b0 b1 b2 b3) 3 N 0 0 [(w0 : Int), (w1 : Int), (w2 : Int), (w3 : Int), (w4' : Int), (w5 : Int), (w6 : Int), (w7 : Int)] = some ((c : Int), [(w0 : Int), (w1 : Int), (w2 : Int), (s0 : Int), (s1 : Int), (s2 : Int), (s3 : Int), (w7 : Int)]) ∧ vl w3 w4' w5 w6 + (A * b0 + 18446744073709551616 * (A * b1) + 340282366920938463463374607431768211456 * (A * b2) + 6277101735386680763835789423207666416102355444464034512896 * (A * b3)) = vl s0 s1 s2 s3 + 115792089237316195423570985008687907853269984665640564039457584007913129639936 * c ∧ s0 < 18446744073709551616 ∧ s1 < 18446744073709551616 ∧ s2 < 18446744073709551616 ∧ s3 < 18446744073709551616 ∧ c < 18446744073709551616 := by
  obtain ⟨hh0, ll0, ss0, kk0, s0, jj0, c0, e0, f0, m0, n0, v0, y0, z0⟩ := mstep (N := N) gA g0 h0 (show (0 : Nat) < 18446744073709551616 by omega)
  obtain ⟨hh1, ll1, ss1, kk1, s1, jj1, c1, e1, f1, m1, n1, v1, y1, z1⟩ := mstep (N := N) gA g1 h1 z0
  obtain ⟨hh2, ll2, ss2, kk2, s2, jj2, c2, e2, f2, m2, n2, v2, y2, z2⟩ := mstep (N := N) gA g2 h2 z1
  obtain ⟨hh3, ll3, ss3, kk3, s3, jj3, c3, e3, f3, m3, n3, v3, y3, z3⟩ := mstep (N := N) gA g3 h3 z2
  refine ⟨s0, s1, s2, s3, c3, ?_, by unfold vl; omega, y0, y1, y2, y3, z3⟩
  obtain ⟨m, hm⟩ := fuel5 (fun q => wide_Mul_L6 N va (w4 b0 b1 b2 b3) 3 q 0 0 [(w0 : Int), (w1 : Int), (w2 : Int), (w3 : Int), (w4' : Int), (w5 : Int), (w6 : Int), (w7 : Int)]) hN
  rw [hm]
  have m0' : add64 (ss0 : Int) 0 0 = some ((s0 : Int), (jj0 : Int)) := m0
  simp only [wide_Mul_L6, math_bits_Add64, hA, a40, a41, a42, a43, q80, q81, q82, q83, q84, q85, q86, q87, t80, t81, t82, t83, t84, t85, t86, t87, i01, i12, i23, i34, d04, d14, d24, d34, d44, x00, x01, x02, x03, x04, x10, x11, x12, x13, x14, x20, x21, x22, x23, x24, x30, x31, x32, x33, x34, if_true, Bool.false_eq_true, if_false, Option.bind_some, e0, e1, e2, e3, f0, f1, f2, f3, m0', m1, m2, m3, n0, n1, n2, n3]
theorem vl_mul (A b0 b1 b2 b3 : Nat) : A * vl b0 b1 b2 b3 = A * b0 + 18446744073709551616 * (A * b1) + 340282366920938463463374607431768211456 * (A * b2) + 6277101735386680763835789423207666416102355444464034512896 * (A * b3) := by
  unfold vl
  rw [Nat.mul_add, Nat.mul_add, Nat.mul_add, Nat.mul_left_comm A 18446744073709551616 b1, Nat.mul_left_comm A 340282366920938463463374607431768211456 b2, Nat.mul_left_comm A 6277101735386680763835789423207666416102355444464034512896 b3]
theorem Mul_U {N : Nat} (hN : 70000 ≤ N) {a b : Nat} (ha : a < 115792089237316195423570985008687907853269984665640564039457584007913129639936) (hb : b < 115792089237316195423570985008687907853269984665640564039457584007913129639936) : wide_Mul N (U a) (U b) = some (U (a * b / 115792089237316195423570985008687907853269984665640564039457584007913129639936), U (a * b % 115792089237316195423570985008687907853269984665640564039457584007913129639936)) := by
  obtain ⟨a0, a1, a2, a3, x0, x1, x2, x3, ea, va⟩ := U_ex ha
  obtain ⟨b0, b1, b2, b3, y0, y1, y2, y3, eb, vb⟩ := U_ex hb
  have zW : (0 : Nat) < 18446744073709551616 := by omega
  obtain ⟨s00, s01, s02, s03, c0, e0, f0, g00, g01, g02, g03, h0⟩ := Row0 (N := N) hN (w0 := 0) (w1 := 0) (w2 := 0) (w3 := 0) (w4' := 0) (w5 := 0) (w6 := 0) (w7 := 0) (a40 a0 a1 a2 a3) x0 y0 y1 y2 y3 zW zW zW zW
  obtain ⟨s10, s11, s12, s13, c1, e1, f1, g10, g11, g12, g13, h1⟩ := Row1 (N := N) hN (w0 := s00) (w5 := 0) (w6 := 0) (w7 := 0) (a41 a0 a1 a2 a3) x1 y0 y1 y2 y3 g01 g02 g03 h0
  obtain ⟨s20, s21, s22, s23, c2, e2, f2, g20, g21, g22, g23, h2⟩ := Row2 (N := N) hN (w0 := s00) (w1 := s10) (w6 := 0) (w7 := 0) (a42 a0 a1 a2 a3) x2 y0 y1 y2 y3 g11 g12 g13 h1
  obtain ⟨s30, s31, s32, s33, c3, e3, f3, g30, g31, g32, g33, h3⟩ := Row3 (N := N) hN (w0 := s00) (w1 := s10) (w2 := s20) (w7 := 0) (a43 a0 a1 a2 a3) x3 y0 y1 y2 y3 g21 g22 g23 h2
  rw [← vl_mul] at f0 f1 f2 f3
  rw [← vb] at f0 f1 f2 f3
  have hab : a * b = a0 * b + 18446744073709551616 * (a1 * b) + 340282366920938463463374607431768211456 * (a2 * b) + 6277101735386680763835789423207666416102355444464034512896 * (a3 * b) := by
    rw [va]; unfold vl
    rw [Nat.add_mul, Nat.add_mul, Nat.add_mul, Nat.mul_assoc, Nat.mul_assoc, Nat.mul_assoc]
  have k1 := vl_lt g00 g10 g20 g30
  have hsum : a * b = vl s00 s10 s20 s30 + 115792089237316195423570985008687907853269984665640564039457584007913129639936 * vl s31 s32 s33 c3 := by
    rw [hab]
    unfold vl at *
    omega
  rw [ea, eb, show a * b / 115792089237316195423570985008687907853269984665640564039457584007913129639936 = vl s31 s32 s33 c3 by omega, show a * b % 115792089237316195423570985008687907853269984665640564039457584007913129639936 = vl s00 s10 s20 s30 by omega, ← w4_U g00 g10 g20 g30, ← w4_U g31 g32 g33 h3]
  obtain ⟨m, hm⟩ := fuel5 (fun q => wide_Mul_L3 N (w4 a0 a1 a2 a3) (w4 b0 b1 b2 b3) q 0 (List.replicate 8 0)) hN
  unfold wide_Mul
  rw [hm]
  have e0' : wide_Mul_L6 N (w4 a0 a1 a2 a3) (w4 b0 b1 b2 b3) 0 N 0 0 [0, 0, 0, 0, 0, 0, 0, 0] = some ((c0 : Int), [(s00 : Int), (s01 : Int), (s02 : Int), (s03 : Int), 0, 0, 0, 0]) := e0
  have e1' : wide_Mul_L6 N (w4 a0 a1 a2 a3) (w4 b0 b1 b2 b3) 1 N 0 0 [(s00 : Int), (s01 : Int), (s02 : Int), (s03 : Int), (c0 : Int), 0, 0, 0] = some ((c1 : Int), [(s00 : Int), (s10 : Int), (s11 : Int), (s12 : Int), (s13 : Int), 0, 0, 0]) := e1
  have e2' : wide_Mul_L6 N (w4 a0 a1 a2 a3) (w4 b0 b1 b2 b3) 2 N 0 0 [(s00 : Int), (s10 : Int), (s11 : Int), (s12 : Int), (s13 : Int), (c1 : Int), 0, 0] = some ((c2 : Int), [(s00 : Int), (s10 : Int), (s20 : Int), (s21 : Int), (s22 : Int), (s23 : Int), 0, 0]) := e2
  have e3' : wide_Mul_L6 N (w4 a0 a1 a2 a3) (w4 b0 b1 b2 b3) 3 N 0 0 [(s00 : Int), (s10 : Int), (s20 : Int), (s21 : Int), (s22 : Int), (s23 : Int), (c2 : Int), 0] = some ((c3 : Int), [(s00 : Int), (s10 : Int), (s20 : Int), (s30 : Int), (s31 : Int), (s32 : Int), (s33 : Int), 0]) := e3
  simp only [wide_Mul_L3, wide_Mul_J5, wide_Mul_J4, show List.replicate 8 (0 : Int) = [0, 0, 0, 0, 0, 0, 0, 0] from rfl, e0', e1', e2', e3', q84, q85, q86, q87, t84, t85, t86, t87, i01, i12, i23, i34, d04, d14, d24, d34, d44, x04, x14, x24, x34, if_true, Bool.false_eq_true, if_false, Option.bind_some]
  rfl
end Go.Proofs.YtokmcbfnfmpemaaDoor
set_option linter.unusedSimpArgs false
set_option linter.unusedVariables false
set_option linter.unusedSectionVars false
namespace Go.Proofs.YtokmcbfnfmpemaaDoor
open Go Go.Vm
theorem pow256 : (2 : Nat) ^ 256 = 115792089237316195423570985008687907853269984665640564039457584007913129639936 := by decide +kernel
theorem step_v {K v : Nat} (hK : K + 1 ≤ 256) (hv : v < 2 ^ (K + 1)) : ∃ t v', t ≤ 1 ∧ v' < 2 ^ K ∧ v = t * 2 ^ K + v' ∧ 2 * (v * 2 ^ (256 - (K + 1))) = t * 115792089237316195423570985008687907853269984665640564039457584007913129639936 + v' * 2 ^ (256 - K) ∧ v' * 2 ^ (256 - K) < 115792089237316195423570985008687907853269984665640564039457584007913129639936 := by
  have hp : 0 < 2 ^ K := Nat.pow_pos (by omega)
  rw [Nat.pow_succ] at hv
  have h256 : 2 ^ K * 2 ^ (256 - K) = 115792089237316195423570985008687907853269984665640564039457584007913129639936 := by rw [← Nat.pow_add, show K + (256 - K) = 256 by omega, pow256]
  have hlt : v % 2 ^ K < 2 ^ K := Nat.mod_lt _ hp
  refine ⟨v / 2 ^ K, v % 2 ^ K, ?_, hlt, ?_, ?_, ?_⟩
  · exact Nat.le_of_lt_succ ((Nat.div_lt_iff_lt_mul hp).2 (by rw [Nat.mul_comm]; exact hv))
  · rw [Nat.mul_comm]; exact (Nat.div_add_mod v (2 ^ K)).symm
  · have hx : 2 ^ (256 - K) = 2 * 2 ^ (256 - (K + 1)) := by rw [show 256 - K = (256 - (K + 1)) + 1 by omega, Nat.pow_succ, Nat.mul_comm]
    rw [Nat.mul_left_comm, ← hx]
    conv => lhs; rw [← Nat.div_add_mod v (2 ^ K), Nat.add_mul, Nat.mul_right_comm, h256]
    rw [Nat.mul_comm]
  · rw [← h256]
    exact Nat.mul_lt_mul_of_pos_right hlt (Nat.pow_pos (by omega))
theorem arr_ok' {α : Type} {n : Nat} {l : List α} (h : l.length = n) : arr n l = some l := by unfold arr; rw [if_pos h]
theorem mod_step (T b p v : Nat) : ((T % b) * p + v) % b = (T * p + v) % b := by
  rw [Nat.add_mod, Nat.mul_mod, Nat.mod_mod, ← Nat.mul_mod, ← Nat.add_mod]
theorem cmpge (a b : Nat) : decide ((0 : Int) ≤ if a < b then -1 else if b < a then 1 else 0) = decide (b ≤ a) := by
  by_cases h : a < b
  · rw [if_pos h, decide_eq_false (show ¬ b ≤ a by omega)]; rfl
  · rw [if_neg h, decide_eq_true (show b ≤ a by omega)]
    split <;> rfl
theorem cmplt (a b : Nat) : decide ((if a < b then (-1 : Int) else if b < a then 1 else 0) < 0) = decide (a < b) := by
  by_cases h : a < b
  · rw [if_pos h, decide_eq_true h]; rfl
  · rw [if_neg h, decide_eq_false h]
    split <;> rfl
theorem cmple (a b : Nat) : decide ((if a < b then (-1 : Int) else if b < a then 1 else 0) ≤ 0) = decide (a ≤ b) := by
  by_cases h : a < b
  · rw [if_pos h, decide_eq_true (show a ≤ b by omega)]; rfl
  · rw [if_neg h]
    by_cases h2 : b < a
    · rw [if_pos h2, decide_eq_false (show ¬ a ≤ b by omega)]; rfl
    · rw [if_neg h2, decide_eq_true (show a ≤ b by omega)]; rfl
section
variable {N : Nat} (hN : 70000 ≤ N) {b : Nat} (hb : b < 115792089237316195423570985008687907853269984665640564039457584007913129639936) (hb0 : 0 < b)
include hN hb hb0
theorem div_bit {word : Nat} (hw : word < 4) {m c K v r : Nat} (hc : c < 64) (hK : K = 64 * word + c) (hv : v < 2 ^ (K + 1)) (hr : r < b) {q : List Int} (hq : q.length = 4) (hnz : ¬ (r = 0 ∧ v = 0)) :
    ∃ q' v' r', q'.length = 4 ∧ v' < 2 ^ K ∧ r' < b ∧ (r' * 2 ^ K + v') % b = (r * 2 ^ (K + 1) + v) % b ∧
      wide_Div_L5 N (U b) (word : Int) (m + 1) (c : Int) (U (v * 2 ^ (256 - (K + 1)))) q (U r) = wide_Div_L5 N (U b) (word : Int) m ((c : Int) - 1) (U (v' * 2 ^ (256 - K))) q' (U r') := by
  obtain ⟨t, v', ht, hv', hvv, h2, h3⟩ := step_v (by omega : K + 1 ≤ 256) hv
  have hlo : v * 2 ^ (256 - (K + 1)) < 115792089237316195423570985008687907853269984665640564039457584007913129639936 := by
    have h5 := (Nat.mul_lt_mul_right (Nat.pow_pos (n := 256 - (K + 1)) (show 0 < 2 by omega))).2 hv
    rw [← Nat.pow_add, show K + 1 + (256 - (K + 1)) = 256 by omega, pow256] at h5
    exact h5
  generalize hlov : v * 2 ^ (256 - (K + 1)) = lo at *
  generalize hlov' : v' * 2 ^ (256 - K) = lo' at *
  have hr4 : r < 115792089237316195423570985008687907853269984665640564039457584007913129639936 := by omega
  obtain ⟨k, d1, d2⟩ := Dbl_U hN hlo (Nat.zero_le 1)
  rw [show (2 * lo + 0) % 115792089237316195423570985008687907853269984665640564039457584007913129639936 = lo' by omega, show (2 * lo + 0) / 115792089237316195423570985008687907853269984665640564039457584007913129639936 = t by omega] at *
  rw [d2] at d1
  clear d2
  obtain ⟨k, d3, d4⟩ := Dbl_U hN hr4 ht
  have d1' : wide_double N (U lo) 0 = some (U lo', ((t : Nat) : Int)) := d1
  have hT : (2 * r + t) % b < b := Nat.mod_lt _ hb0
  have hTv : ((2 * r + t) % b * 2 ^ K + v') % b = (r * 2 ^ (K + 1) + v) % b := by
    rw [mod_step, hvv, Nat.add_mul, Nat.pow_succ, Nat.add_assoc, Nat.mul_right_comm 2 r, Nat.mul_comm (2 ^ K) 2, Nat.mul_comm (2 * 2 ^ K) r]
  have main : ∀ (q : List Int), q.length = 4 → ∃ q', q'.length = 4 ∧ wide_Div_J7 N (U b) (word : Int) (c : Int) (U lo) q (U r) (wide_Div_L5 N (U b) (word : Int) m) false = wide_Div_L5 N (U b) (word : Int) m ((c : Int) - 1) (U lo') q' (U ((2 * r + t) % b)) := by
    intro q hq
    simp only [wide_Div_J7, Bool.false_eq_true, if_false, arrU, d1', d3, Option.bind_some]
    have hcw : IntKind.i64.wrap ((c : Int) - 1) = (c : Int) - 1 := w64 (by omega) (by omega)
    have hsub : ∀ (x : Nat), x < 115792089237316195423570985008687907853269984665640564039457584007913129639936 → (x + 115792089237316195423570985008687907853269984665640564039457584007913129639936 - b) % 115792089237316195423570985008687907853269984665640564039457584007913129639936 = (2 * r + t) % b → ∃ q', q'.length = 4 ∧ wide_Div_J8 N (U b) (word : Int) (c : Int) q (U lo', ((t : Nat) : Int)) (U x, (k : Int)) (wide_Div_L5 N (U b) (word : Int) m) true = wide_Div_L5 N (U b) (word : Int) m ((c : Int) - 1) (U lo') q' (U ((2 * r + t) % b)) := by
      intro x hx he
      have hs : shl .u64 1 (c : Int) = some ((1 * 2 ^ c % 2 ^ IntKind.u64.bits : Nat) : Int) := shl_nat rfl 1 c
      have ha : aix 4 q (word : Int) = some (q[word]'(by omega)) := by
        unfold aix
        rw [if_pos (by omega), idx_lt q (by omega)]
      refine ⟨q.set (Int.toNat (word : Int)) (bits .or .u64 (q[word]'(by omega)) ((1 * 2 ^ c % 2 ^ IntKind.u64.bits : Nat) : Int)), by rw [List.length_set]; exact hq, ?_⟩
      simp only [wide_Div_J8, if_true, Sub_U hN hx hb, Option.bind_some, arrU, ha, hs, wide_Div_J6, hcw, he]
    by_cases h1 : 2 * r + t < 115792089237316195423570985008687907853269984665640564039457584007913129639936
    · have hk0 : k = 0 := by omega
      subst hk0
      simp only [show (((0 : Nat) : Int) != 0) = false from rfl, Bool.false_eq_true, if_false, Cmp_U hN (show (2 * r + t) % 115792089237316195423570985008687907853269984665640564039457584007913129639936 < 115792089237316195423570985008687907853269984665640564039457584007913129639936 by omega) hb, Option.bind_some, cmpge]
      rw [Nat.mod_eq_of_lt h1] at *
      by_cases h4 : b ≤ 2 * r + t
      · rw [decide_eq_true h4]
        refine hsub _ h1 ?_
        rw [Nat.mod_eq_sub_mod h4, Nat.mod_eq_of_lt (show 2 * r + t - b < b by omega)]
        omega
      · rw [decide_eq_false h4]
        refine ⟨q, hq, ?_⟩
        simp only [wide_Div_J8, Bool.false_eq_true, if_false, wide_Div_J6, hcw]
        rw [Nat.mod_eq_of_lt (show 2 * r + t < b by omega)]
    · have hk1 : k = 1 := by omega
      subst hk1
      simp only [show (((1 : Nat) : Int) != 0) = true from rfl, if_true]
      refine hsub _ (by omega) ?_
      rw [Nat.mod_eq_sub_mod (show b ≤ 2 * r + t by omega), Nat.mod_eq_of_lt (show 2 * r + t - b < b by omega)]
      omega
  obtain ⟨q', hq', he⟩ := main q hq
  refine ⟨q', v', (2 * r + t) % b, hq', hv', hT, hTv, ?_⟩
  rw [hlov']
  rw [wide_Div_L5, show decide ((0 : Int) ≤ (c : Int)) = true from decide_eq_true (by omega), if_pos rfl, arrU, Option.bind_some, ← U_zero]
  rw [U_beq hr4 (show 0 < 115792089237316195423570985008687907853269984665640564039457584007913129639936 by omega), arrU, Option.bind_some, U_beq hlo (show 0 < 115792089237316195423570985008687907853269984665640564039457584007913129639936 by omega)]
  by_cases h0 : r = 0
  · have hl0 : lo ≠ 0 := by
      intro h
      have : v = 0 := by
        rcases Nat.mul_eq_zero.1 (hlov.trans h) with h | h
        · exact h
        · exact absurd h (Nat.ne_of_gt (Nat.pow_pos (by omega)))
      exact hnz ⟨h0, this⟩
    rw [decide_eq_true h0, if_pos rfl, decide_eq_false hl0]
    exact he
  · rw [decide_eq_false h0]
    exact he
theorem div_word {word : Nat} (hw : word < 4) : ∀ (c m v r : Nat) (q : List Int), c ≤ 64 → c < m → v < 2 ^ (64 * word + c) → r < b → q.length = 4 →
    (∃ q', q'.length = 4 ∧ (r * 2 ^ (64 * word + c) + v) % b = 0 ∧ wide_Div_L5 N (U b) (word : Int) m ((c : Int) - 1) (U (v * 2 ^ (256 - (64 * word + c)))) q (U r) = some (.ret (q', U 0))) ∨
    (∃ q' v' r', q'.length = 4 ∧ v' < 2 ^ (64 * word) ∧ r' < b ∧ (r' * 2 ^ (64 * word) + v') % b = (r * 2 ^ (64 * word + c) + v) % b ∧
      wide_Div_L5 N (U b) (word : Int) m ((c : Int) - 1) (U (v * 2 ^ (256 - (64 * word + c)))) q (U r) = some (.brk (U (v' * 2 ^ (256 - 64 * word)), q', U r')))
  | 0, m, v, r, q, _, hm, hv, hr, hq => by
    obtain ⟨m, rfl⟩ : ∃ k, m = k + 1 := ⟨m - 1, by omega⟩
    refine .inr ⟨q, v, r, hq, hv, hr, rfl, ?_⟩
    rw [wide_Div_L5, show decide ((0 : Int) ≤ ((0 : Nat) : Int) - 1) = false from rfl]
    rfl
  | c + 1, m, v, r, q, hc, hm, hv, hr, hq => by
    obtain ⟨m, rfl⟩ : ∃ k, m = k + 1 := ⟨m - 1, by omega⟩
    rw [show ((c + 1 : Nat) : Int) - 1 = (c : Int) by omega]
    by_cases hz : r = 0 ∧ v = 0
    · obtain ⟨rfl, rfl⟩ := hz
      refine .inl ⟨q, hq, by simp, ?_⟩
      rw [wide_Div_L5, show decide ((0 : Int) ≤ (c : Int)) = true from decide_eq_true (by omega), if_pos rfl, Nat.zero_mul]
      rfl
    · obtain ⟨q', v', r', h1, h2, h3, h4, h5⟩ := div_bit hN hb hb0 hw (m := m) (show c < 64 by omega) rfl (show v < 2 ^ (64 * word + c + 1) from hv) hr hq hz
      rw [show 64 * word + (c + 1) = 64 * word + c + 1 from rfl, h5, ← h4]
      exact div_word hw c m v' r' q' (by omega) (by omega) h2 h3 h1
theorem div_all : ∀ (w m v r : Nat) (q : List Int), w ≤ 4 → w < m → v < 2 ^ (64 * w) → r < b → q.length = 4 →
    ∃ q', q'.length = 4 ∧ wide_Div_L3 N (U b) m ((w : Int) - 1) (U (v * 2 ^ (256 - 64 * w))) q (U r) = some (q', U ((r * 2 ^ (64 * w) + v) % b))
  | 0, m, v, r, q, _, hm, hv, hr, hq => by
    obtain ⟨m, rfl⟩ : ∃ k, m = k + 1 := ⟨m - 1, by omega⟩
    refine ⟨q, hq, ?_⟩
    have hv0 : v = 0 := by simpa using hv
    subst hv0
    rw [wide_Div_L3, show decide ((0 : Int) ≤ ((0 : Nat) : Int) - 1) = false from rfl]
    simp [Nat.mod_eq_of_lt hr]
  | w + 1, m, v, r, q, hw, hm, hv, hr, hq => by
    obtain ⟨m, rfl⟩ : ∃ k, m = k + 1 := ⟨m - 1, by omega⟩
    rw [wide_Div_L3, show ((w + 1 : Nat) : Int) - 1 = (w : Int) by omega, show decide ((0 : Int) ≤ (w : Int)) = true from decide_eq_true (by omega), if_pos rfl]
    have e63 : (63 : Int) = ((64 : Nat) : Int) - 1 := rfl
    have ek : 64 * (w + 1) = 64 * w + 64 := by omega
    rw [ek] at hv
    rw [e63, ek]
    rcases div_word hN hb hb0 (show w < 4 by omega) 64 N v r q (Nat.le_refl _) (by omega) hv hr hq with ⟨q', h1, h2, h3⟩ | ⟨q', v', r', h1, h2, h3, h4, h5⟩
    · rw [h3, h2]
      exact ⟨q', h1, rfl⟩
    · rw [h5, ← h4]
      simp only [Option.bind_some, wide_Div_J4]
      rw [w64 (a := (w : Int) - 1) (by omega) (by omega)]
      exact div_all w m v' r' q' (by omega) (by omega) h2 h3 h1
theorem Div_U {hi lo : Nat} (hh : hi < b) (hl : lo < 115792089237316195423570985008687907853269984665640564039457584007913129639936) : ∃ q', q'.length = 4 ∧ wide_Div N (U hi) (U lo) (U b) = some (q', U ((hi * 115792089237316195423570985008687907853269984665640564039457584007913129639936 + lo) % b), true) := by
  obtain ⟨q', h1, h2⟩ := div_all hN hb hb0 4 N lo hi (List.replicate 4 0) (Nat.le_refl _) (by omega) (by rw [show 64 * 4 = 256 from rfl, pow256]; exact hl) hh (by simp)
  rw [show ((4 : Nat) : Int) - 1 = 3 from rfl, show 256 - 64 * 4 = 0 from rfl, Nat.pow_zero, Nat.mul_one, show 64 * 4 = 256 from rfl, pow256] at h2
  refine ⟨q', h1, ?_⟩
  simp only [wide_Div, arrU, Option.bind_some, Cmp_U hN hb (show hi < 115792089237316195423570985008687907853269984665640564039457584007913129639936 by omega), cmple]
  rw [decide_eq_false (show ¬ b ≤ hi by omega)]
  simp only [Bool.false_eq_true, if_false, h2, Option.bind_some, wide_Div_J1, arr_ok' h1, arrU, wide_Div_J2]
theorem reduce_U {a : Nat} (ha : a < 115792089237316195423570985008687907853269984665640564039457584007913129639936) : wide_reduce N (U a) (U b) = some (U (a % b)) := by
  simp only [wide_reduce, arrU, Option.bind_some, Cmp_U hN ha hb, cmplt]
  by_cases h : a < b
  · rw [decide_eq_true h, if_pos rfl, Nat.mod_eq_of_lt h]
  · rw [decide_eq_false h]
    obtain ⟨q', h1, h2⟩ := Div_U hN hb hb0 hb0 ha
    rw [U_zero, Nat.zero_mul, Nat.zero_add] at h2
    simp only [Bool.false_eq_true, if_false, h2, Option.bind_some, arr_ok' h1, arrU]
theorem U_nz : (U b == [0, 0, 0, 0]) = false := by
  rw [← U_zero, U_beq hb (by omega)]
  exact decide_eq_false (by omega)
theorem MulMod_U {x y : Nat} (hx : x < 115792089237316195423570985008687907853269984665640564039457584007913129639936) (hy : y < 115792089237316195423570985008687907853269984665640564039457584007913129639936) : wide_MulMod N (U x) (U y) (U b) = some (U (x * y % b)) := by
  have hp : x * y / 115792089237316195423570985008687907853269984665640564039457584007913129639936 < 115792089237316195423570985008687907853269984665640564039457584007913129639936 := by
    have h5 := Nat.mul_le_mul (Nat.le_pred_of_lt hx) (Nat.le_pred_of_lt hy)
    simp only [Nat.pred_eq_sub_one, Nat.reduceSub, Nat.reduceMul] at h5
    omega
  obtain ⟨q', h1, h2⟩ := Div_U hN hb hb0 (Nat.mod_lt (x * y / 115792089237316195423570985008687907853269984665640564039457584007913129639936) hb0) (show x * y % 115792089237316195423570985008687907853269984665640564039457584007913129639936 < 115792089237316195423570985008687907853269984665640564039457584007913129639936 by omega)
  rw [mod_step, Nat.mul_comm (x * y / 115792089237316195423570985008687907853269984665640564039457584007913129639936) 115792089237316195423570985008687907853269984665640564039457584007913129639936, Nat.div_add_mod] at h2
  simp only [wide_MulMod, arrU, Option.bind_some, U_nz hN hb hb0, Bool.false_eq_true, if_false, Mul_U hN hx hy, reduce_U hN hb hb0 hp, h2, arr_ok' h1, wide_MulMod_J1]
theorem AddMod_U {x y : Nat} (hx : x < 115792089237316195423570985008687907853269984665640564039457584007913129639936) (hy : y < 115792089237316195423570985008687907853269984665640564039457584007913129639936) : wide_AddMod N (U x) (U y) (U b) = some (U ((x + y) % b)) := by
  have h1 := Nat.mod_lt x hb0
  have h2 := Nat.mod_lt y hb0
  have key : (x + y) % b = if x % b + y % b < b then x % b + y % b else x % b + y % b - b := by
    rw [Nat.add_mod]
    split
    · rename_i h; exact Nat.mod_eq_of_lt h
    · rename_i h; rw [Nat.mod_eq_sub_mod (by omega), Nat.mod_eq_of_lt (by omega)]
  simp only [wide_AddMod, arrU, Option.bind_some, U_nz hN hb hb0, Bool.false_eq_true, if_false, reduce_U hN hb hb0 hx, reduce_U hN hb hb0 hy, Add_U hN (show x % b < 115792089237316195423570985008687907853269984665640564039457584007913129639936 by omega) (show y % b < 115792089237316195423570985008687907853269984665640564039457584007913129639936 by omega)]
  rw [key]
  generalize x % b = u at *
  generalize y % b = v at *
  by_cases h : 115792089237316195423570985008687907853269984665640564039457584007913129639936 ≤ u + v
  · rw [decide_eq_true h, if_neg (show ¬ u + v < b by omega)]
    simp only [if_true, wide_AddMod_J2, Sub_U hN (show (u + v) % 115792089237316195423570985008687907853269984665640564039457584007913129639936 < 115792089237316195423570985008687907853269984665640564039457584007913129639936 by omega) hb, Option.bind_some, arrU, wide_AddMod_J1]
    rw [show ((u + v) % 115792089237316195423570985008687907853269984665640564039457584007913129639936 + 115792089237316195423570985008687907853269984665640564039457584007913129639936 - b) % 115792089237316195423570985008687907853269984665640564039457584007913129639936 = u + v - b by omega]
  · rw [decide_eq_false h]
    simp only [Bool.false_eq_true, if_false, Cmp_U hN (show (u + v) % 115792089237316195423570985008687907853269984665640564039457584007913129639936 < 115792089237316195423570985008687907853269984665640564039457584007913129639936 by omega) hb, Option.bind_some, cmpge]
    rw [Nat.mod_eq_of_lt (show u + v < 115792089237316195423570985008687907853269984665640564039457584007913129639936 by omega)]
    by_cases h3 : b ≤ u + v
    · rw [decide_eq_true h3, if_neg (show ¬ u + v < b by omega)]
      simp only [if_true, wide_AddMod_J2, Sub_U hN (show u + v < 115792089237316195423570985008687907853269984665640564039457584007913129639936 by omega) hb, Option.bind_some, arrU, wide_AddMod_J1]
      rw [show (u + v + 115792089237316195423570985008687907853269984665640564039457584007913129639936 - b) % 115792089237316195423570985008687907853269984665640564039457584007913129639936 = u + v - b by omega]
    · rw [decide_eq_false h3, if_pos (show u + v < b by omega)]
      simp only [Bool.false_eq_true, if_false, wide_AddMod_J2, Option.bind_some, arrU, wide_AddMod_J1]
end
end Go.Proofs.YtokmcbfnfmpemaaDoor
set_option linter.unusedSimpArgs false
set_option linter.unusedVariables false
set_option linter.unusedSectionVars false
set_option maxRecDepth 20000
namespace Go.Proofs.YtokmcbfnfmpemaaDoor
open Go Go.Vm
theorem tab_all : ((List.range 256).all fun y => match math_bits_Len64_J3 0 (y : Int) 0 with | some v => decide (0 ≤ v ∧ v ≤ 8 ∧ y < 2 ^ v.toNat) | none => false) = true := by decide +kernel
theorem wrap_wrap (z : Int) : IntKind.i64.wrap (0 + IntKind.i64.wrap z) = IntKind.i64.wrap z := by simp only [IntKind.wrap_i64]; omega
theorem tab8 {N x : Nat} (hx : x < 256) {n : Nat} (hn : n ≤ 1000) : ∃ t : Nat, t ≤ 8 ∧ x < 2 ^ t ∧ math_bits_Len64_J3 N (x : Int) (n : Int) = some ((n + t : Nat) : Int) := by
  have h := List.all_eq_true.1 tab_all x (by simpa using hx)
  unfold math_bits_Len64_J3 at h ⊢
  generalize hs : sidx _ (IntKind.u8.wrap (x : Int)) = s at h ⊢
  cases s with
  | none => simp at h
  | some z =>
    simp only [Option.bind_some, wrap_wrap, decide_eq_true_eq] at h ⊢
    generalize IntKind.i64.wrap z = w at *
    obtain ⟨h1, h2, h3⟩ := h
    clear hs
    refine ⟨w.toNat, ?_, h3, ?_⟩ <;> clear h3
    · omega
    · rw [w64 (by omega) (by omega)]
      congr 1; omega
theorem lt_pow {x k t : Nat} (h : x / 2 ^ k < 2 ^ t) : x < 2 ^ (k + t) := by
  rw [Nat.pow_add, Nat.mul_comm]
  exact (Nat.div_lt_iff_lt_mul (Nat.pow_pos (by omega))).1 h
theorem dle' (a b : Nat) : decide ((a : Int) ≤ (b : Int)) = decide (a ≤ b) := by
  by_cases h : a ≤ b
  · rw [decide_eq_true h, decide_eq_true (by omega)]
  · rw [decide_eq_false h, decide_eq_false (by omega)]
theorem Len64_ex {N x : Nat} (hx : x < 18446744073709551616) : ∃ n : Nat, n ≤ 64 ∧ x < 2 ^ n ∧ math_bits_Len64 N (x : Int) = some (n : Int) := by
  have j2 : ∀ (x n : Nat), x < 65536 → n ≤ 100 → ∃ t : Nat, t ≤ 16 ∧ x < 2 ^ t ∧ math_bits_Len64_J2 N (x : Int) (n : Int) = some ((n + t : Nat) : Int) := by
    intro x n hx hn
    unfold math_bits_Len64_J2
    rw [show (256 : Int) = ((256 : Nat) : Int) from rfl, dle']
    by_cases h : 256 ≤ x
    · rw [decide_eq_true h, if_pos rfl, show shr .u64 (x : Int) 8 = some ((x / 256 : Nat) : Int) from shr_nat x 8 (Nat.lt_of_lt_of_le hx (by decide)), Option.bind_some, w64 (a := (n : Int) + 8) (by omega) (by omega), show (n : Int) + 8 = ((n + 8 : Nat) : Int) by omega]
      obtain ⟨t, h1, h2, h3⟩ := tab8 (N := N) (show x / 256 < 256 by omega) (show n + 8 ≤ 1000 by omega)
      exact ⟨8 + t, Nat.add_le_add_left h1 8, lt_pow (k := 8) h2, by rw [h3, Nat.add_assoc]⟩
    · rw [decide_eq_false h]
      obtain ⟨t, h1, h2, h3⟩ := tab8 (N := N) (show x < 256 by omega) (show n ≤ 1000 by omega)
      exact ⟨t, Nat.le_trans h1 (by decide), h2, h3⟩
  have j1 : ∀ (x n : Nat), x < 4294967296 → n ≤ 50 → ∃ t : Nat, t ≤ 32 ∧ x < 2 ^ t ∧ math_bits_Len64_J1 N (x : Int) (n : Int) = some ((n + t : Nat) : Int) := by
    intro x n hx hn
    unfold math_bits_Len64_J1
    rw [show (65536 : Int) = ((65536 : Nat) : Int) from rfl, dle']
    by_cases h : 65536 ≤ x
    · rw [decide_eq_true h, if_pos rfl, show shr .u64 (x : Int) 16 = some ((x / 65536 : Nat) : Int) from shr_nat x 16 (Nat.lt_of_lt_of_le hx (by decide)), Option.bind_some, w64 (a := (n : Int) + 16) (by omega) (by omega), show (n : Int) + 16 = ((n + 16 : Nat) : Int) by omega]
      obtain ⟨t, h1, h2, h3⟩ := j2 (x / 65536) (n + 16) (by omega) (by omega)
      exact ⟨16 + t, Nat.add_le_add_left h1 16, lt_pow (k := 16) h2, by rw [h3, Nat.add_assoc]⟩
    · rw [decide_eq_false h]
      obtain ⟨t, h1, h2, h3⟩ := j2 x n (by omega) (by omega)
      exact ⟨t, Nat.le_trans h1 (by decide), h2, h3⟩
  unfold math_bits_Len64
  rw [show (4294967296 : Int) = ((4294967296 : Nat) : Int) from rfl, dle']
  by_cases h : 4294967296 ≤ x
  · rw [decide_eq_true h, if_pos rfl, show shr .u64 (x : Int) 32 = some ((x / 4294967296 : Nat) : Int) from shr_nat x 32 hx, Option.bind_some]
    obtain ⟨t, h1, h2, h3⟩ := j1 (x / 4294967296) 32 (by omega) (by omega)
    exact ⟨32 + t, Nat.add_le_add_left h1 32, lt_pow (k := 32) h2, h3⟩
  · rw [decide_eq_false h]
    obtain ⟨t, h1, h2, h3⟩ := j1 x 0 (by omega) (by omega)
    exact ⟨t, Nat.le_trans h1 (by decide), h2, by rw [Nat.zero_add] at h3; exact h3⟩
theorem Len_U {N : Nat} (hN : 70000 ≤ N) {e : Nat} (he : e < 115792089237316195423570985008687907853269984665640564039457584007913129639936) : ∃ n : Nat, n ≤ 256 ∧ e < 2 ^ n ∧ wide_Len N (U e) = some (n : Int) := by
  obtain ⟨a0, a1, a2, a3, x0, x1, x2, x3, ea, va⟩ := U_ex he
  unfold vl at va
  obtain ⟨n0, l0, p0, f0⟩ := Len64_ex (N := N) x0
  obtain ⟨n1, l1, p1, f1⟩ := Len64_ex (N := N) x1
  obtain ⟨n2, l2, p2, f2⟩ := Len64_ex (N := N) x2
  obtain ⟨n3, l3, p3, f3⟩ := Len64_ex (N := N) x3
  rw [ea]
  obtain ⟨m, hm⟩ := fuel5 (fun q => wide_Len_L2 N (w4 a0 a1 a2 a3) q 3) hN
  unfold wide_Len
  rw [hm]
  simp only [wide_Len_L2, a40, a41, a42, a43, i32, i21, i10, i0m, show decide ((0 : Int) ≤ 3) = true from rfl, show decide ((0 : Int) ≤ 2) = true from rfl, show decide ((0 : Int) ≤ 1) = true from rfl, show decide ((0 : Int) ≤ 0) = true from rfl, show decide ((0 : Int) ≤ -1) = false from rfl, if_true, Bool.false_eq_true, if_false, Option.bind_some, wide_Len_J1, f0, f1, f2, f3]
  have nz : ∀ x : Nat, (((x : Nat) : Int) != 0) = !decide (x = 0) := fun x => by
    by_cases h : x = 0
    · subst h; rfl
    · rw [decide_eq_false h]; simp; omega
  rw [nz, nz, nz, nz]
  have wr : ∀ (i n : Nat), i ≤ 3 → n ≤ 64 → IntKind.i64.wrap (IntKind.i64.wrap (64 * (i : Int)) + (n : Int)) = ((64 * i + n : Nat) : Int) := fun i n hi hn => by
    rw [w64 (a := 64 * (i : Int)) (by omega) (by omega), w64 (by omega) (by omega)]; omega
  have q3 := wr 3 n3 (by omega) l3
  have q2 := wr 2 n2 (by omega) l2
  have q1 := wr 1 n1 (by omega) l1
  have q0 := wr 0 n0 (by omega) l0
  have pw : ∀ i n : Nat, 2 ^ (64 * i + n) = 2 ^ (64 * i) * 2 ^ n := fun i n => Nat.pow_add _ _ _
  by_cases h3 : a3 = 0
  · rw [decide_eq_true h3]
    by_cases h2 : a2 = 0
    · rw [decide_eq_true h2]
      by_cases h1 : a1 = 0
      · rw [decide_eq_true h1]
        by_cases h0 : a0 = 0
        · rw [decide_eq_true h0]
          exact ⟨0, by omega, by simp; omega, rfl⟩
        · rw [decide_eq_false h0]
          refine ⟨64 * 0 + n0, by omega, ?_, ?_⟩
          · rw [show 64 * 0 + n0 = n0 by omega]; omega
          · rw [← q0]; rfl
      · rw [decide_eq_false h1]
        refine ⟨64 * 1 + n1, by omega, ?_, ?_⟩
        · rw [pw, show 2 ^ (64 * 1) = 18446744073709551616 from rfl]
          generalize 2 ^ n1 = z at *
          omega
        · rw [← q1]; rfl
    · rw [decide_eq_false h2]
      refine ⟨64 * 2 + n2, by omega, ?_, ?_⟩
      · rw [pw, show 2 ^ (64 * 2) = 340282366920938463463374607431768211456 from rfl]
        generalize 2 ^ n2 = z at *
        omega
      · rw [← q2]; rfl
  · rw [decide_eq_false h3]
    refine ⟨64 * 3 + n3, by omega, ?_, ?_⟩
    · rw [pw, show 2 ^ (64 * 3) = 6277101735386680763835789423207666416102355444464034512896 from rfl]
      generalize 2 ^ n3 = z at *
      omega
    · rw [← q3]; rfl
abbrev pM : Nat := 115792089237316195423570985008687907853269984665640564039457584007913129639936 - 36113
abbrev qM : Nat := 57896044618658097711785492504343953926634992332820282019728792003956564801911
theorem mod_eq (N : Nat) : group_Modulus N = some (U 115792089237316195423570985008687907853269984665640564039457584007913129603823) := by unfold group_Modulus; decide +kernel
theorem ord_eq (N : Nat) : group_Order N = some (U 57896044618658097711785492504343953926634992332820282019728792003956564801911) := by unfold group_Order; decide +kernel
theorem gMul {N : Nat} (hN : 70000 ≤ N) {a b : Nat} (ha : a < 115792089237316195423570985008687907853269984665640564039457584007913129639936) (hb : b < 115792089237316195423570985008687907853269984665640564039457584007913129639936) : group_Mul N (U a) (U b) = some (U (a * b % 115792089237316195423570985008687907853269984665640564039457584007913129603823)) := by
  simp only [group_Mul, arrU, mod_eq, Option.bind_some, MulMod_U (b := 115792089237316195423570985008687907853269984665640564039457584007913129603823) hN (by decide) (by decide) ha hb]
theorem bit_U {e : Nat} (he : e < 115792089237316195423570985008687907853269984665640564039457584007913129639936) {j : Nat} (hj : j < 256) : ∃ x y : Nat, aix 4 (U e) ((j / 64 : Nat) : Int) = some (x : Int) ∧ shr .u64 (x : Int) ((j % 64 : Nat) : Int) = some (y : Int) ∧ (bits .and .u64 (y : Int) 1 == 1) = decide (e / 2 ^ j % 2 = 1) := by
  have hx : aix 4 (U e) ((j / 64 : Nat) : Int) = some ((e / 2 ^ (64 * (j / 64)) % 18446744073709551616 : Nat) : Int) := by
    have h4 : j / 64 < 4 := by omega
    unfold U
    generalize j / 64 = k at *
    match k, h4 with
    | 0, _ => rw [show 2 ^ (64 * 0) = 1 from rfl, Nat.div_one]; rfl
    | 1, _ => rfl
    | 2, _ => rfl
    | 3, _ => rfl
  refine ⟨_, _, hx, shr_nat _ _ (show e / 2 ^ (64 * (j / 64)) % 18446744073709551616 < 2 ^ 64 by omega), ?_⟩
  have hlt : e / 2 ^ (64 * (j / 64)) % 18446744073709551616 / 2 ^ (j % 64) < 2 ^ 64 := Nat.lt_of_le_of_lt (Nat.div_le_self _ _) (show e / 2 ^ (64 * (j / 64)) % 18446744073709551616 < 2 ^ 64 by omega)
  rw [show (1 : Int) = ((1 : Nat) : Int) from rfl, bits_and_nat (k := .u64) rfl _ 1 hlt (by decide), Nat.and_one_is_mod]
  have key : e / 2 ^ (64 * (j / 64)) % 18446744073709551616 / 2 ^ (j % 64) % 2 = e / 2 ^ j % 2 := by
    have h1 : (e / 2 ^ (64 * (j / 64)) % 2 ^ 64).testBit (j % 64) = (e / 2 ^ (64 * (j / 64))).testBit (j % 64) := by
      rw [Nat.testBit_mod_two_pow, decide_eq_true (Nat.mod_lt _ (by omega)), Bool.true_and]
    rw [Nat.testBit_div_two_pow, show j % 64 + 64 * (j / 64) = j by omega] at h1
    rw [Nat.testBit_eq_decide_div_mod_eq, Nat.testBit_eq_decide_div_mod_eq, decide_eq_decide] at h1
    have h2 : e / 2 ^ (64 * (j / 64)) % 2 ^ 64 / 2 ^ (j % 64) % 2 = e / 2 ^ j % 2 := by
      generalize e / 2 ^ (64 * (j / 64)) % 2 ^ 64 / 2 ^ (j % 64) = u at *
      generalize e / 2 ^ j = w at *
      omega
    exact h2
  rw [key]
  generalize e / 2 ^ j % 2 = u
  by_cases h : u = 1
  · subst h; rfl
  · rw [decide_eq_false h]; simp; omega
theorem pow_step (a p e : Nat) : (a ^ (e / 2) % p) * (a ^ (e / 2) % p) % p * (if e % 2 = 1 then a else 1) % p = a ^ e % p := by
  have h : a ^ e = a ^ (e / 2) * a ^ (e / 2) * (if e % 2 = 1 then a else 1) := by
    rw [← Nat.pow_add]
    split
    · rename_i h1
      rw [← Nat.pow_succ]; congr 1; omega
    · rw [Nat.mul_one]; congr 1; omega
  rw [h, ← Nat.mul_mod, Nat.mod_mul_mod]
section
variable {N : Nat} (hN : 70000 ≤ N)
include hN
theorem exp_loop {a e n : Nat} (ha : a < 115792089237316195423570985008687907853269984665640564039457584007913129639936) (he : e < 115792089237316195423570985008687907853269984665640564039457584007913129639936) (hn : n ≤ 256) : ∀ (m j : Nat), n - j < m → j ≤ n → group_Exp_L2 N (U a) (U e) (n : Int) m (j : Int) (U (a ^ (e / 2 ^ (n - j)) % 115792089237316195423570985008687907853269984665640564039457584007913129603823)) = some (U (a ^ e % 115792089237316195423570985008687907853269984665640564039457584007913129603823))
  | 0, j, hm, _ => by omega
  | m + 1, j, hm, hj => by
    rw [group_Exp_L2]
    by_cases h : j < n
    · rw [dT h, if_pos rfl]
      have hp : a ^ (e / 2 ^ (n - j)) % 115792089237316195423570985008687907853269984665640564039457584007913129603823 < 115792089237316195423570985008687907853269984665640564039457584007913129639936 := Nat.lt_of_lt_of_le (Nat.mod_lt _ (by omega)) (by omega)
      obtain ⟨x, y, b1, b2, b3⟩ := bit_U he (show n - 1 - j < 256 by omega)
      rw [w64 (a := (n : Int) - 1) (by omega) (by omega), w64 (a := (n : Int) - 1 - (j : Int)) (by omega) (by omega), show (n : Int) - 1 - (j : Int) = ((n - 1 - j : Nat) : Int) by omega, show (64 : Int) = ((64 : Nat) : Int) from rfl, tdiv_nat, tmod_nat, w64 (a := (((n - 1 - j) / 64 : Nat) : Int)) (by omega) (by omega)]
      simp only [arrU, gMul hN hp hp, Option.bind_some, b1, b2, b3]
      have hdiv : e / 2 ^ (n - (j + 1)) / 2 = e / 2 ^ (n - j) := by rw [Nat.div_div_eq_div_mul, show 2 ^ (n - (j + 1)) * 2 = 2 ^ (n - j) by rw [← Nat.pow_succ]; congr 1; omega]
      have key := pow_step a 115792089237316195423570985008687907853269984665640564039457584007913129603823 (e / 2 ^ (n - (j + 1)))
      rw [hdiv] at key
      have hlt2 : (a ^ (e / 2 ^ (n - j)) % 115792089237316195423570985008687907853269984665640564039457584007913129603823) * (a ^ (e / 2 ^ (n - j)) % 115792089237316195423570985008687907853269984665640564039457584007913129603823) % 115792089237316195423570985008687907853269984665640564039457584007913129603823 < 115792089237316195423570985008687907853269984665640564039457584007913129639936 := Nat.lt_of_lt_of_le (Nat.mod_lt _ (by omega)) (by omega)
      rw [show n - 1 - j = n - (j + 1) by omega]
      by_cases hb : e / 2 ^ (n - (j + 1)) % 2 = 1
      · rw [decide_eq_true hb, if_pos rfl, gMul hN hlt2 ha]
        rw [if_pos hb] at key
        simp only [Option.bind_some, arrU, group_Exp_J3, i1 (show j ≤ 100000 by omega), key]
        exact exp_loop ha he hn m (j + 1) (by omega) (by omega)
      · rw [decide_eq_false hb]
        rw [if_neg hb, Nat.mul_one, Nat.mod_mod] at key
        simp only [Bool.false_eq_true, if_false, group_Exp_J3, i1 (show j ≤ 100000 by omega), key]
        exact exp_loop ha he hn m (j + 1) (by omega) (by omega)
    · obtain rfl : j = n := by omega
      rw [dF h, Nat.sub_self, Nat.pow_zero, Nat.div_one]
      rfl
theorem Exp_U {a e : Nat} (ha : a < 115792089237316195423570985008687907853269984665640564039457584007913129639936) (he : e < 115792089237316195423570985008687907853269984665640564039457584007913129639936) : group_Exp N (U a) (U e) = some (U (a ^ e % 115792089237316195423570985008687907853269984665640564039457584007913129603823)) := by
  obtain ⟨n, h1, h2, h3⟩ := Len_U hN he
  have h4 := exp_loop hN ha he h1 N 0 (by omega) (by omega)
  rw [Nat.sub_zero, Nat.div_eq_of_lt h2, Nat.pow_zero, show 1 % 115792089237316195423570985008687907853269984665640564039457584007913129603823 = 1 from rfl, show ((0 : Nat) : Int) = 0 from rfl] at h4
  have hU1 : ([1, 0, 0, 0] : List Int) = U 1 := by decide +kernel
  simp only [group_Exp, wide_FromUint, hU1, arrU, h3, Option.bind_some, h4, group_Exp_J1]
end
end Go.Proofs.YtokmcbfnfmpemaaDoor
set_option linter.unusedSimpArgs false
set_option linter.unusedVariables false
set_option linter.unusedSectionVars false
namespace Go.Proofs.YtokmcbfnfmpemaaDoor
open Go Go.Vm
theorem aix_nat {α : Type} {n : Nat} {l : List α} {i : Nat} (h : i < n) (hl : i < l.length) : aix n l (i : Int) = some l[i] := by
  unfold aix; rw [if_pos (by omega), idx_lt l hl]
theorem arr_ok {α : Type} {n : Nat} {l : List α} (h : l.length = n) : arr n l = some l := by unfold arr; rw [if_pos h]
theorem rot_ok (N : Nat) (x n s : Int) (hs : bits .and .u64 (IntKind.u64.wrap (IntKind.i64.wrap (0 - n))) 31 = s) (h0 : 0 ≤ s) (h1 : s ≤ 32) : ∃ y, sha_rotr N x n = some y := by
  unfold sha_rotr math_bits_RotateLeft32
  rw [hs, wu64 (a := 32 - s) (by omega) (by omega)]
  unfold shl shr
  rw [if_neg (by omega), if_neg (by omega)]
  exact ⟨_, rfl⟩
def rv (N : Nat) (x n : Int) : Int := (sha_rotr N x n).getD 0
theorem rv_of {N : Nat} {x n : Int} (h : ∃ y, sha_rotr N x n = some y) : sha_rotr N x n = some (rv N x n) := by obtain ⟨y, h⟩ := h; simp [rv, h]
theorem rv2 (N : Nat) (x : Int) : sha_rotr N x 2 = some (rv N x 2) := rv_of (rot_ok N x 2 30 (by decide +kernel) (by omega) (by omega))
theorem rv6 (N : Nat) (x : Int) : sha_rotr N x 6 = some (rv N x 6) := rv_of (rot_ok N x 6 26 (by decide +kernel) (by omega) (by omega))
theorem rv7 (N : Nat) (x : Int) : sha_rotr N x 7 = some (rv N x 7) := rv_of (rot_ok N x 7 25 (by decide +kernel) (by omega) (by omega))
theorem rv11 (N : Nat) (x : Int) : sha_rotr N x 11 = some (rv N x 11) := rv_of (rot_ok N x 11 21 (by decide +kernel) (by omega) (by omega))
theorem rv13 (N : Nat) (x : Int) : sha_rotr N x 13 = some (rv N x 13) := rv_of (rot_ok N x 13 19 (by decide +kernel) (by omega) (by omega))
theorem rv17 (N : Nat) (x : Int) : sha_rotr N x 17 = some (rv N x 17) := rv_of (rot_ok N x 17 15 (by decide +kernel) (by omega) (by omega))
theorem rv18 (N : Nat) (x : Int) : sha_rotr N x 18 = some (rv N x 18) := rv_of (rot_ok N x 18 14 (by decide +kernel) (by omega) (by omega))
theorem rv19 (N : Nat) (x : Int) : sha_rotr N x 19 = some (rv N x 19) := rv_of (rot_ok N x 19 13 (by decide +kernel) (by omega) (by omega))
theorem rv22 (N : Nat) (x : Int) : sha_rotr N x 22 = some (rv N x 22) := rv_of (rot_ok N x 22 10 (by decide +kernel) (by omega) (by omega))
theorem rv25 (N : Nat) (x : Int) : sha_rotr N x 25 = some (rv N x 25) := rv_of (rot_ok N x 25 7 (by decide +kernel) (by omega) (by omega))
theorem shr3 (x : Int) : shr .u32 x 3 = some (x.fdiv (2 ^ (min (3 : Int).toNat 32))) := by unfold shr; rw [if_neg (by omega)]; rfl
theorem shr10 (x : Int) : shr .u32 x 10 = some (x.fdiv (2 ^ (min (10 : Int).toNat 32))) := by unfold shr; rw [if_neg (by omega)]; rfl
theorem shaK_len : shaK.length = 64 := rfl
theorem shaI_len : shaI.length = 8 := rfl
theorem sL3 (N : Nat) : ∀ (m j : Nat) (l : List Int), l.length = 64 → 16 ≤ j → j ≤ 64 → 64 - j < m → ∃ r, sha_schedule_L3 N m (j : Int) l = some r ∧ r.length = 64
  | 0, j, l, _, _, _, hm => by omega
  | m + 1, j, l, hl, h1, h2, hm => by
    rw [sha_schedule_L3]
    by_cases h : j < 64
    · rw [show decide ((j : Int) < 64) = true from decide_eq_true (by omega), if_pos rfl]
      rw [w64 (a := (j : Int) - 15) (by omega) (by omega), show (j : Int) - 15 = ((j - 15 : Nat) : Int) by omega, aix_nat (show j - 15 < 64 by omega) (by omega)]
      rw [w64 (a := (j : Int) - 2) (by omega) (by omega), show (j : Int) - 2 = ((j - 2 : Nat) : Int) by omega, aix_nat (show j - 2 < 64 by omega) (by omega)]
      rw [w64 (a := (j : Int) - 16) (by omega) (by omega), show (j : Int) - 16 = ((j - 16 : Nat) : Int) by omega, aix_nat (show j - 16 < 64 by omega) (by omega)]
      rw [w64 (a := (j : Int) - 7) (by omega) (by omega), show (j : Int) - 7 = ((j - 7 : Nat) : Int) by omega, aix_nat (show j - 7 < 64 by omega) (by omega)]
      rw [aix_nat h (by omega)]
      simp only [Option.bind_some, rv7, rv18, rv17, rv19, shr3, shr10, i1 (show j ≤ 100000 by omega)]
      exact sL3 N m (j + 1) _ (by rw [List.length_set]; exact hl) (by omega) (by omega) (by omega)
    · rw [show decide ((j : Int) < 64) = false from decide_eq_false (by omega)]
      exact ⟨l, rfl, hl⟩
theorem cL2 (N : Nat) (st w : List Int) (hw : w.length = 64) : ∀ (m j : Nat) (a b c d e f g h : Int), j ≤ 64 → 64 - j < m → ∃ r, sha_Compress_L2 N st w m a b c d e f g h (j : Int) = some r
  | 0, j, _, _, _, _, _, _, _, _, _, hm => by omega
  | m + 1, j, a, b, c, d, e, f, g, h, hj, hm => by
    rw [sha_Compress_L2]
    by_cases h1 : j < 64
    · rw [show decide ((j : Int) < 64) = true from decide_eq_true (by omega), if_pos rfl, aix_nat h1 (show j < shaK.length from h1), aix_nat h1 (by omega)]
      simp only [Option.bind_some, rv2, rv6, rv11, rv13, rv22, rv25, i1 (show j ≤ 100000 by omega)]
      exact cL2 N st w hw m (j + 1) _ _ _ _ _ _ _ _ (by omega) (by omega)
    · rw [show decide ((j : Int) < 64) = false from decide_eq_false (by omega)]
      exact ⟨_, rfl⟩
def wd (b : List Nat) (i : Nat) : Nat := ((b.getD (4 * i) 0 * 256 + b.getD (4 * i + 1) 0) * 256 + b.getD (4 * i + 2) 0) * 256 + b.getD (4 * i + 3) 0
theorem getD_lt {b : List Nat} (h : ∀ x ∈ b, x < 256) (i : Nat) : b.getD i 0 < 256 := by
  rw [List.getD_eq_getElem?_getD]
  rcases Nat.lt_or_ge i b.length with hi | hi
  · rw [List.getElem?_eq_getElem hi]; exact h _ (List.getElem_mem hi)
  · rw [List.getElem?_eq_none hi]; simp
theorem or_add (a b k : Nat) (h : b < 2 ^ k) : a * 2 ^ k ||| b = a * 2 ^ k + b := by
  rw [Nat.mul_comm, ← Nat.two_pow_add_eq_or_of_lt h]
theorem orU (a b : Nat) (ha : a < 4294967296) (hb : b < 4294967296) : bits .or .u32 (a : Int) (b : Int) = ((a ||| b : Nat) : Int) := bits_or_nat rfl a b ha hb
theorem shlU (a b : Nat) : shl .u32 (a : Int) (b : Int) = some ((a * 2 ^ b % 4294967296 : Nat) : Int) := shl_nat rfl a b
theorem byteAt {b : List Nat} {i : Nat} (hl : b.length = 64) (hi : i < 64) : aix 64 (iN b) (i : Int) = some ((b.getD i 0 : Nat) : Int) := by
  rw [aix_nat hi (by rw [iN_len]; omega)]
  have h1 : i < b.length := by omega
  simp [iN, h1]
theorem wu32n (n : Nat) (h : n < 4294967296) : IntKind.u32.wrap (n : Int) = n := wu32 (by omega) (by omega)
def put16 (b : List Nat) (j : Nat) (l : List Int) : List Int := (List.range' j (16 - j)).foldl (fun l i => l.set i ((wd b i : Nat) : Int)) l
theorem put16_len (b : List Nat) (j : Nat) (l : List Int) : (put16 b j l).length = l.length := by
  unfold put16
  generalize List.range' j (16 - j) = r
  induction r generalizing l with
  | nil => rfl
  | cons x r ih => rw [List.foldl_cons, ih, List.length_set]
section
variable (N : Nat) (b : List Nat) (hl : b.length = 64) (hb : ∀ x ∈ b, x < 256)
include hl hb
theorem sL6 (i : Nat) (hi : i < 16) (m j : Nat) (hj : j < 4) (l : List Int) (hll : l.length = 64) (v : Nat) (hv : v < 16777216) (hli : l[i]? = some (v : Int)) :
    sha_schedule_L6 N (iN b) (i : Int) (m + 1) (j : Int) l = sha_schedule_L6 N (iN b) (i : Int) m ((j + 1 : Nat) : Int) (l.set i ((v * 256 + b.getD (4 * i + j) 0 : Nat) : Int)) := by
  have hil : i < l.length := by omega
  have hbl := getD_lt hb (4 * i + j)
  rw [sha_schedule_L6, show decide ((j : Int) < 4) = true from decide_eq_true (by omega), if_pos rfl, aix_nat (show i < 64 by omega) hil]
  rw [List.getElem?_eq_getElem hil] at hli
  rw [Option.some.inj hli, w64 (a := 4 * (i : Int)) (by omega) (by omega), w64 (a := 4 * (i : Int) + (j : Int)) (by omega) (by omega), show 4 * (i : Int) + (j : Int) = ((4 * i + j : Nat) : Int) by omega, byteAt hl (by omega)]
  rw [show (8 : Int) = ((8 : Nat) : Int) from rfl]
  simp only [Option.bind_some, shlU, Int.toNat_natCast, i1 (show j ≤ 100000 by omega)]
  rw [wu32n _ (by omega), orU _ _ (Nat.mod_lt _ (by omega)) (by omega), Nat.mod_eq_of_lt (by omega), or_add _ _ 8 (by omega)]
theorem sL6_all (i : Nat) (hi : i < 16) (l : List Int) (hll : l.length = 64) (hli : l[i]? = some 0) (hN : 10 ≤ N) : sha_schedule_L6 N (iN b) (i : Int) N 0 l = some (l.set i ((wd b i : Nat) : Int)) := by
  have g0 := getD_lt hb (4 * i)
  have g1 := getD_lt hb (4 * i + 1)
  have g2 := getD_lt hb (4 * i + 2)
  have hil : i < l.length := by omega
  obtain ⟨m, hm⟩ : ∃ m, N = m + 5 := ⟨N - 5, by omega⟩
  have hfu : ∀ k, sha_schedule_L6 N (iN b) (i : Int) N k l = sha_schedule_L6 N (iN b) (i : Int) (m + 1 + 1 + 1 + 1 + 1) k l := fun k => by
    have : N = m + 1 + 1 + 1 + 1 + 1 := by omega
    exact congrArg (fun q => sha_schedule_L6 N (iN b) (i : Int) q k l) this
  rw [hfu, show (0 : Int) = ((0 : Nat) : Int) from rfl, sL6 N b hl hb i hi _ 0 (by omega) l hll 0 (by omega) hli]
  rw [sL6 N b hl hb i hi _ 1 (by omega) _ (by rw [List.length_set]; exact hll) (0 * 256 + b.getD (4 * i + 0) 0) (by simp only [Nat.add_zero]; omega) (List.getElem?_set_self hil), List.set_set]
  rw [sL6 N b hl hb i hi _ 2 (by omega) _ (by rw [List.length_set]; exact hll) _ (by simp only [Nat.add_zero]; omega) (List.getElem?_set_self hil), List.set_set]
  rw [sL6 N b hl hb i hi _ 3 (by omega) _ (by rw [List.length_set]; exact hll) _ (by simp only [Nat.add_zero]; omega) (List.getElem?_set_self hil), List.set_set]
  rw [sha_schedule_L6]
  simp only [Nat.reduceAdd, show decide (((4 : Nat) : Int) < 4) = false from rfl, Bool.false_eq_true, if_false, wd, Nat.zero_mul, Nat.zero_add, Nat.add_zero]
omit hl hb in
theorem first16 {f : Nat → Int → List Int → Option (List Int)} (hs : ∀ (m j : Nat) (l : List Int), j < 16 → l.length = 64 → l[j]? = some 0 → f (m + 1) (j : Int) l = f m ((j + 1 : Nat) : Int) (l.set j ((wd b j : Nat) : Int))) (he : ∀ m l, f (m + 1) 16 l = some l) :
    ∀ (m j : Nat) (l : List Int), 16 - j < m → j ≤ 16 → l.length = 64 → (∀ i, j ≤ i → i < 64 → l[i]? = some 0) → f m (j : Int) l = some (put16 b j l)
  | 0, j, l, hm, _, _, _ => by omega
  | m + 1, j, l, hm, hj, hll, hz => by
    by_cases h : j < 16
    · rw [hs m j l h hll (hz j (Nat.le_refl _) (by omega)), first16 hs he m (j + 1) _ (by omega) (by omega) (by rw [List.length_set]; exact hll) (fun i h1 h2 => by rw [List.getElem?_set_ne (by omega)]; exact hz i (by omega) h2)]
      unfold put16
      rw [show 16 - j = (16 - (j + 1)) + 1 by omega, List.range'_succ, List.foldl_cons]
    · obtain rfl : j = 16 := by omega
      exact he m l
theorem sL4 (hN : 70000 ≤ N) : sha_schedule_L4 N (iN b) N 0 (List.replicate 64 0) = some (put16 b 0 (List.replicate 64 0)) := by
  refine first16 b (f := sha_schedule_L4 N (iN b)) (fun m j l hj hll hz => ?_) (fun m l => by rw [sha_schedule_L4]; rfl) N 0 _ (by omega) (by omega) (by simp) (fun i _ hi => by rw [List.getElem?_replicate, if_pos hi])
  rw [sha_schedule_L4, show decide ((j : Int) < 16) = true from decide_eq_true (by omega), if_pos rfl, sL6_all N b hl hb j hj l hll hz (by omega)]
  simp only [Option.bind_some, sha_schedule_J5, i1 (show j ≤ 100000 by omega)]
end
section
variable (N : Nat) (hN : 70000 ≤ N) (b : List Nat) (hl : b.length = 64) (hb : ∀ x ∈ b, x < 256)
include hN hl hb
theorem sched : ∃ w, sha_schedule N (iN b) = some w ∧ w.length = 64 := by
  obtain ⟨w, h1, h2⟩ := sL3 N N 16 (put16 b 0 (List.replicate 64 0)) (by rw [put16_len]; simp) (by omega) (by omega) (by omega)
  rw [show ((16 : Nat) : Int) = 16 from rfl] at h1
  refine ⟨w, ?_, h2⟩
  simp only [sha_schedule, sL4 N b hl hb hN, Option.bind_some, sha_schedule_J1, h1, sha_schedule_J2, arr_ok h2]
theorem compress (st : List Int) (hst : st.length = 8) : ∃ r, sha_Compress N st (iN b) = some r ∧ r.length = 8 := by
  obtain ⟨w, h1, h2⟩ := sched N hN b hl hb
  have hbl : (iN b).length = 64 := by rw [iN_len]; exact hl
  have a0 : aix 8 st 0 = some st[0] := aix_nat (i := 0) (by omega) (by omega)
  have a1 : aix 8 st 1 = some st[1] := aix_nat (i := 1) (by omega) (by omega)
  have a2 : aix 8 st 2 = some st[2] := aix_nat (i := 2) (by omega) (by omega)
  have a3 : aix 8 st 3 = some st[3] := aix_nat (i := 3) (by omega) (by omega)
  have a4 : aix 8 st 4 = some st[4] := aix_nat (i := 4) (by omega) (by omega)
  have a5 : aix 8 st 5 = some st[5] := aix_nat (i := 5) (by omega) (by omega)
  have a6 : aix 8 st 6 = some st[6] := aix_nat (i := 6) (by omega) (by omega)
  have a7 : aix 8 st 7 = some st[7] := aix_nat (i := 7) (by omega) (by omega)
  obtain ⟨r, hr⟩ := cL2 N st w h2 N 0 st[0] st[1] st[2] st[3] st[4] st[5] st[6] st[7] (by omega) (by omega)
  rw [show ((0 : Nat) : Int) = 0 from rfl] at hr
  refine ⟨[IntKind.u32.wrap (st[0] + r.1), IntKind.u32.wrap (st[1] + r.2.1), IntKind.u32.wrap (st[2] + r.2.2.1), IntKind.u32.wrap (st[3] + r.2.2.2.1), IntKind.u32.wrap (st[4] + r.2.2.2.2.1), IntKind.u32.wrap (st[5] + r.2.2.2.2.2.1), IntKind.u32.wrap (st[6] + r.2.2.2.2.2.2.1), IntKind.u32.wrap (st[7] + r.2.2.2.2.2.2.2)], ?_, rfl⟩
  simp only [sha_Compress, arr_ok hbl, h1, arr_ok h2, a0, a1, a2, a3, a4, a5, a6, a7, Option.bind_some, hr, sha_Compress_J1]
end
end Go.Proofs.YtokmcbfnfmpemaaDoor
set_option linter.unusedSimpArgs false
set_option linter.unusedVariables false
set_option linter.unusedSectionVars false
namespace Go.Proofs.YtokmcbfnfmpemaaDoor
open Go Go.Vm
def beG (n : Nat) (i : Nat) : Int := IntKind.u8.wrap ((IntKind.u64.wrap (8 * (n : Int))).fdiv (2 ^ (56 - 8 * i)))
def zer (n : Nat) : Nat := (64 - (n + 9) % 64) % 64
def padB (n : Nat) : List Int := (128 :: List.replicate (zer n) 0) ++ (List.range' 0 8).map (beG n)
theorem padB_len (n : Nat) : (padB n).length = 9 + zer n := by simp [padB]; omega
theorem u8_byt (x : Int) : 0 ≤ IntKind.u8.wrap x ∧ IntKind.u8.wrap x < 256 := by rw [IntKind.wrap_u8]; omega
theorem padB_byt (n : Nat) : Byt (padB n) := by
  intro x hx
  simp only [padB, List.mem_append, List.mem_cons, List.mem_replicate, List.mem_map] at hx
  rcases hx with (rfl | ⟨_, rfl⟩) | ⟨i, _, rfl⟩
  · omega
  · omega
  · exact u8_byt _
theorem shr64 (a : Int) (s : Nat) (h : s ≤ 64) : shr .u64 a (s : Int) = some (a.fdiv (2 ^ s)) := by
  unfold shr
  rw [if_neg (by omega), Int.toNat_natCast, show min s IntKind.u64.bits = s from Nat.min_eq_left h]
theorem pad_loop (N n : Nat) : ∀ (k m : Nat) (acc : List Int), k ≤ 8 → k < m → acc.length + k ≤ 1000 → sha_Pad_L2 N (n : Int) m ((8 - k : Nat) : Int) acc = some (acc ++ (List.range' (8 - k) k).map (beG n))
  | 0, m, acc, _, hm, _ => by
    obtain ⟨m, rfl⟩ : ∃ q, m = q + 1 := ⟨m - 1, by omega⟩
    rw [sha_Pad_L2, show decide (((8 - 0 : Nat) : Int) < 8) = false from rfl]; simp
  | k + 1, m, acc, hk, hm, ha => by
    obtain ⟨m, rfl⟩ : ∃ q, m = q + 1 := ⟨m - 1, by omega⟩
    rw [sha_Pad_L2, show decide (((8 - (k + 1) : Nat) : Int) < 8) = true from decide_eq_true (by omega), if_pos rfl]
    rw [w64 (a := 8 * ((8 - (k + 1) : Nat) : Int)) (by omega) (by omega), w64 (a := 56 - 8 * ((8 - (k + 1) : Nat) : Int)) (by omega) (by omega), show 56 - 8 * ((8 - (k + 1) : Nat) : Int) = ((56 - 8 * (8 - (k + 1)) : Nat) : Int) by omega, shr64 _ _ (by omega)]
    simp only [Option.bind_some]
    rw [appB (by simp; omega)]
    simp only [Option.bind_some, i1 (show 8 - (k + 1) ≤ 100000 by omega)]
    rw [show 8 - (k + 1) + 1 = 8 - k by omega, pad_loop N n k m _ (by omega) (by omega) (by simp; omega), List.range'_succ, List.map_cons, show 8 - (k + 1) + 1 = 8 - k by omega, List.append_assoc]
    rfl
theorem set0 (z : Nat) : (List.replicate (1 + z) (0 : Int)).set 0 128 = 128 :: List.replicate z 0 := by rw [Nat.add_comm, List.replicate_succ]; rfl
theorem sPad (N : Nat) (hN : 70000 ≤ N) (n : Nat) (hn : n ≤ 1000000000) : sha_Pad N (n : Int) = some (padB n) := by
  have hz : zer n < 64 := Nat.mod_lt _ (by omega)
  have hlim := lim_big2
  unfold sha_Pad
  rw [wu64 (a := (n : Int) + 9) (by omega) (by omega), show (n : Int) + 9 = ((n + 9 : Nat) : Int) by omega, show (64 : Int) = ((64 : Nat) : Int) from rfl, tmod_nat]
  have h1 : (n + 9) % 64 < 64 := Nat.mod_lt _ (by omega)
  rw [wu64 (a := ((64 : Nat) : Int) - (((n + 9) % 64 : Nat) : Int)) (by omega) (by omega), show ((64 : Nat) : Int) - (((n + 9) % 64 : Nat) : Int) = ((64 - (n + 9) % 64 : Nat) : Int) by omega, tmod_nat]
  rw [show ((64 - (n + 9) % 64) % 64 : Nat) = zer n from rfl, wu64 (a := 1 + ((zer n : Nat) : Int)) (by omega) (by omega), wu64 (a := 9 + ((zer n : Nat) : Int)) (by omega) (by omega)]
  have hm : mkl 1 (0 : Int) (1 + ((zer n : Nat) : Int)) (9 + ((zer n : Nat) : Int)) = some (List.replicate (1 + zer n) 0) := by
    unfold mkl
    rw [if_pos ⟨by omega, by omega, by omega⟩, show (1 + ((zer n : Nat) : Int)).toNat = 1 + zer n by omega]
  have h0 : idx (List.replicate (1 + zer n) (0 : Int)) 0 = some 0 := by
    rw [show (0 : Int) = ((0 : Nat) : Int) from rfl, idx_nat, List.getElem?_replicate, if_pos (by omega)]
  simp only [hm, Option.bind_some, h0, Int.toNat_zero, set0]
  have := pad_loop N n 8 N (128 :: List.replicate (zer n) 0) (by omega) (by omega) (by simp; omega)
  rw [show ((8 - 8 : Nat) : Int) = 0 from rfl] at this
  rw [this]; rfl
theorem row_loop {f : Nat → Int → List Int → Option (List Int)} (l : List (List Int)) (hn : l.length ≤ 1000) (ht : l.flatten.length ≤ 50000000)
    (hs : ∀ m j acc (hj : j < l.length), acc.length + l[j].length ≤ 50000000 → f (m + 1) (j : Int) acc = f m ((j + 1 : Nat) : Int) (acc ++ l[j])) (he : ∀ m j acc, l.length ≤ j → f (m + 1) (j : Int) acc = some acc) (N : Nat) (hN : 70000 ≤ N) :
    f N 0 [] = some l.flatten := by
  have hfl : l.flatMap id = l.flatten := by simp
  have := loop_flat (f := f) (xs := l) (g := id) (B := 50000000) (by omega) hs he N 0 [] (by omega) (by omega) (by rw [List.drop_zero, hfl]; simpa using ht)
  rw [List.drop_zero, hfl] at this
  simpa using this
theorem srow (N : Nat) (hN : 70000 ≤ N) (l : List (List Int)) (hn : l.length ≤ 1000) (ht : l.flatten.length ≤ 50000000) : sha_row N l = some l.flatten := by
  have := row_loop (f := sha_row_L2 N l) l hn ht (fun m j acc hj hB => by
    rw [sha_row_L2, dT hj, if_pos rfl, idx_lt l hj, Option.bind_some, appB (by omega)]
    simp only [Option.bind_some, i1 (show j ≤ 100000 by omega)]) (fun m j acc hj => by rw [sha_row_L2, dF (by omega)]; rfl) N hN
  unfold sha_row
  rw [this]; rfl
def cmp (N : Nat) (st blk : List Int) : List Int := (sha_Compress N st blk).getD []
def blkAt (msg : List Int) (i : Nat) : List Int := (msg.drop (64 * i)).take 64
theorem byt_take {l : List Int} (h : Byt l) (k : Nat) : Byt (l.take k) := fun x hx => h x (List.mem_of_mem_take hx)
theorem byt_drop {l : List Int} (h : Byt l) (k : Nat) : Byt (l.drop k) := fun x hx => h x (List.mem_of_mem_drop hx)
theorem cmp_ok (N : Nat) (hN : 70000 ≤ N) (st blk : List Int) (hst : st.length = 8) (hb : Byt blk) (hl : blk.length = 64) : sha_Compress N st blk = some (cmp N st blk) ∧ (cmp N st blk).length = 8 := by
  obtain ⟨b, rfl, h2⟩ := byt_nat hb
  obtain ⟨r, h3, h4⟩ := compress N hN b (by rw [iN_len] at hl; exact hl) h2 st hst
  have : cmp N st (iN b) = r := by simp [cmp, h3]
  rw [this]; exact ⟨h3, h4⟩
def rounds (N : Nat) (msg st : List Int) (j k : Nat) : List Int := (List.range' j k).foldl (fun s i => cmp N s (blkAt msg i)) st
section
variable (N : Nat) (hN : 70000 ≤ N) (msg : List Int) (hb : Byt msg) (hl : msg.length ≤ 2000000)
include hN hb hl
theorem sum_loop : ∀ (m j : Nat) (st : List Int), msg.length / 64 - j < m → j ≤ msg.length / 64 → st.length = 8 → sha_Sum_L4 N msg m (j : Int) st = some (rounds N msg st j (msg.length / 64 - j)) ∧ (rounds N msg st j (msg.length / 64 - j)).length = 8
  | 0, j, st, hm, _, _ => by omega
  | m + 1, j, st, hm, hj, hst => by
    rw [sha_Sum_L4, show (64 : Int) = ((64 : Nat) : Int) from rfl, tdiv_nat, w64 (a := ((msg.length / 64 : Nat) : Int)) (by omega) (by omega)]
    by_cases h : j < msg.length / 64
    · have hlen : (blkAt msg j).length = 64 := by simp [blkAt]; omega
      obtain ⟨c1, c2⟩ := cmp_ok N hN st (blkAt msg j) hst (byt_take (byt_drop hb _) _) hlen
      rw [dT h, if_pos rfl, arr_ok hst, w64 (a := ((64 : Nat) : Int) * (j : Int)) (by omega) (by omega)]
      have e1 : sub msg (((64 : Nat) : Int) * (j : Int)) (msg.length : Int) = some (msg.drop (64 * j)) := by
        unfold sub
        rw [if_pos ⟨by omega, by omega, by omega⟩, show (((64 : Nat) : Int) * (j : Int)).toNat = 64 * j by omega, Int.toNat_natCast, List.take_of_length_le (Nat.le_refl _)]
      have e2 : arp 64 (msg.drop (64 * j)) = some (blkAt msg j) := by unfold arp; rw [if_pos (by simp; omega)]; rfl
      simp only [e1, e2, c1, arr_ok c2, Option.bind_some, i1 (show j ≤ 100000 by omega)]
      obtain ⟨i1', i2'⟩ := sum_loop m (j + 1) _ (by omega) (by omega) c2
      have er : rounds N msg st j (msg.length / 64 - j) = rounds N msg (cmp N st (blkAt msg j)) (j + 1) (msg.length / 64 - (j + 1)) := by
        unfold rounds
        rw [show msg.length / 64 - j = (msg.length / 64 - (j + 1)) + 1 by omega, List.range'_succ, List.foldl_cons]
      rw [er]
      exact ⟨i1', i2'⟩
    · rw [dF h, show msg.length / 64 - j = 0 by omega]
      exact ⟨rfl, hst⟩
end
def outG (st : List Int) (i : Nat) : Int := IntKind.u8.wrap ((st.getD (i / 4) 0).fdiv (2 ^ (24 - 8 * (i % 4))))
def outH (st : List Int) : List Int := (List.range 32).map (outG st)
theorem outH_len (st : List Int) : (outH st).length = 32 := by simp [outH]
theorem outH_byt (st : List Int) : Byt (outH st) := by
  intro x hx
  simp only [outH, List.mem_map] at hx
  obtain ⟨i, _, rfl⟩ := hx
  exact u8_byt _
theorem fill_step (g : Nat → Int) (w j : Nat) (hj : j < w) : ((List.range j).map g ++ List.replicate (w - j) 0).set j (g j) = (List.range (j + 1)).map g ++ List.replicate (w - (j + 1)) 0 := by
  rw [List.set_append_right _ _ (by simp), show w - j = (w - (j + 1)) + 1 by omega, List.replicate_succ, List.range_succ, List.map_append, List.append_assoc]
  simp
theorem shr32 (a : Int) (s : Nat) (h : s ≤ 32) : shr .u32 a (s : Int) = some (a.fdiv (2 ^ s)) := by
  unfold shr
  rw [if_neg (by omega), Int.toNat_natCast, show min s IntKind.u32.bits = s from Nat.min_eq_left h]
theorem aixD {st : List Int} (hst : st.length = 8) {i : Nat} (h : i < 8) : aix 8 st (i : Int) = some (st.getD i 0) := by
  have : i < st.length := by omega
  rw [aix_nat h this]; simp [this]
section
variable (N : Nat) (hN : 70000 ≤ N) (st : List Int) (hst : st.length = 8)
include hN hst
theorem out_loop : ∀ (m j : Nat), 32 - j < m → j ≤ 32 → sha_Sum_L3 N st m (j : Int) ((List.range j).map (outG st) ++ List.replicate (32 - j) 0) = some (outH st)
  | 0, j, hm, _ => by omega
  | m + 1, j, hm, hj => by
    rw [sha_Sum_L3]
    by_cases h : j < 32
    · rw [show decide ((j : Int) < 32) = true from decide_eq_true (by omega), if_pos rfl, show (4 : Int) = ((4 : Nat) : Int) from rfl, tdiv_nat, tmod_nat, w64 (a := ((j / 4 : Nat) : Int)) (by omega) (by omega), aixD hst (by omega)]
      rw [w64 (a := ((j % 4 : Nat) : Int) * 8) (by omega) (by omega), w64 (a := 24 - ((j % 4 : Nat) : Int) * 8) (by omega) (by omega), show 24 - ((j % 4 : Nat) : Int) * 8 = ((24 - 8 * (j % 4) : Nat) : Int) by omega]
      simp only [Option.bind_some]
      rw [shr32 _ _ (by omega), aix_nat h (by simp; omega)]
      simp only [Option.bind_some, Int.toNat_natCast, i1 (show j ≤ 100000 by omega)]
      have := fill_step (outG st) 32 j h
      rw [show IntKind.u8.wrap ((st.getD (j / 4) 0).fdiv (2 ^ (24 - 8 * (j % 4)))) = outG st j from rfl, this]
      exact out_loop m (j + 1) (by omega) (by omega)
    · obtain rfl : j = 32 := by omega
      rw [show decide (((32 : Nat) : Int) < 32) = false from rfl]
      simp [outH]
end
def sha256 (N : Nat) (b : List Int) : List Int := outH (rounds N (b ++ padB b.length) shaI 0 ((b ++ padB b.length).length / 64))
theorem sha256_len (N : Nat) (b : List Int) : (sha256 N b).length = 32 := outH_len _
theorem sha256_byt (N : Nat) (b : List Int) : Byt (sha256 N b) := outH_byt _
theorem Sum_eq (N : Nat) (hN : 70000 ≤ N) (b : List Int) (hb : Byt b) (hl : b.length ≤ 1000000) : sha_Sum N b = some (sha256 N b) := by
  have hz : zer b.length < 64 := Nat.mod_lt _ (by omega)
  have hpl := padB_len b.length
  have hmb : Byt (b ++ padB b.length) := hb.append (padB_byt _)
  have hml : (b ++ padB b.length).length ≤ 2000000 := by rw [List.length_append]; omega
  obtain ⟨s1, s2⟩ := sum_loop N hN _ hmb hml N 0 shaI (by omega) (by omega) rfl
  rw [show ((0 : Nat) : Int) = 0 from rfl, Nat.sub_zero] at s1
  rw [Nat.sub_zero] at s2
  have hw : IntKind.u64.wrap (b.length : Int) = (b.length : Int) := wu64 (by omega) (by omega)
  have o := out_loop N hN (rounds N (b ++ padB b.length) shaI 0 ((b ++ padB b.length).length / 64)) s2 N 0 (by omega) (by omega)
  simp only [List.range_zero, List.map_nil, List.nil_append, Nat.sub_zero] at o
  rw [show ((0 : Nat) : Int) = 0 from rfl] at o
  simp only [sha_Sum, hw, sPad N hN b.length (by omega), Option.bind_some]
  rw [srow N hN [b, padB b.length] (by simp) (by simp; omega)]
  simp only [Option.bind_some, List.flatten_cons, List.flatten_nil, List.append_nil, s1, sha_Sum_J1, o, sha_Sum_J2, arr_ok (outH_len _)]
  rfl
theorem bytesOf_byt (s : ByteArray) : Byt (bytesOf s) := by
  intro x hx
  unfold bytesOf at hx
  simp only [List.mem_map] at hx
  obtain ⟨b, _, rfl⟩ := hx
  have := b.toNat_lt
  omega
def tagged (N : Nat) (tag : ByteArray) (b : List Int) : List Int := sha256 N (sha256 N (bytesOf tag) ++ (sha256 N (bytesOf tag) ++ b))
theorem tagged_len (N : Nat) (tag : ByteArray) (b : List Int) : (tagged N tag b).length = 32 := sha256_len _ _
theorem tagged_byt (N : Nat) (tag : ByteArray) (b : List Int) : Byt (tagged N tag b) := sha256_byt _ _
theorem Tagged_eq (N : Nat) (hN : 70000 ≤ N) (tag : ByteArray) (ht : tag.size ≤ 1000) (b : List Int) (hb : Byt b) (hl : b.length ≤ 900000) : sha_Tagged N tag b = some (tagged N tag b) := by
  have hlim := lim_big2
  have hs : stb tag = some (bytesOf tag) := by unfold stb; rw [if_pos (by omega)]
  have s1 := Sum_eq N hN (bytesOf tag) (bytesOf_byt tag) (by rw [bytesOf_len]; omega)
  have l1 := sha256_len N (bytesOf tag)
  have t1 := Sum_eq N hN (sha256 N (bytesOf tag) ++ (sha256 N (bytesOf tag) ++ b)) ((sha256_byt _ _).append ((sha256_byt _ _).append hb)) (by simp only [List.length_append, l1]; omega)
  simp only [sha_Tagged, hs, s1, Option.bind_some, arr_ok l1]
  rw [srow N hN _ (by simp) (by simp [l1]; omega)]
  simp only [Option.bind_some, List.flatten_cons, List.flatten_nil, List.append_nil, t1, arr_ok (sha256_len N _)]
  rfl
end Go.Proofs.YtokmcbfnfmpemaaDoor
set_option linter.unusedSimpArgs false
set_option linter.unusedVariables false
set_option linter.unusedSectionVars false
namespace Go.Proofs.YtokmcbfnfmpemaaDoor
open Go Go.Vm
theorem bitsU (op : BinOp) (a b : Int) : 0 ≤ bits op .u64 a b ∧ bits op .u64 a b < 18446744073709551616 := by
  unfold bits
  rw [IntKind.wrap_u64]
  omega
theorem Wd.set {l : List Int} (h : Wd l) (i : Nat) {x : Int} (hx : 0 ≤ x ∧ x < 18446744073709551616) : Wd (l.set i x) :=
  ⟨by rw [List.length_set]; exact h.1, fun y hy => (List.mem_or_eq_of_mem_set hy).elim (h.2 y) (fun e => e ▸ hx)⟩
section
variable {N : Nat} (hN : 70000 ≤ N)
include hN
theorem fb_loop {h : List Int} (hl : h.length = 32) : ∀ (m j : Nat) (l : List Int), 32 - j < m → j ≤ 32 → Wd l → ∃ r, wide_FromBytes_L2 N h m (j : Int) l = some r ∧ Wd r
  | 0, j, l, hm, _, _ => by omega
  | m + 1, j, l, hm, hj, hw => by
    rw [wide_FromBytes_L2]
    by_cases hh : j < 32
    · have h4 := hw.1
      rw [show decide ((j : Int) < 32) = true from decide_eq_true (by omega), if_pos rfl, aix_nat hh (by omega), show (8 : Int) = ((8 : Nat) : Int) from rfl, tdiv_nat, w64 (a := ((j / 8 : Nat) : Int)) (by omega) (by omega), w64 (a := 3 - ((j / 8 : Nat) : Int)) (by omega) (by omega), show 3 - ((j / 8 : Nat) : Int) = ((3 - j / 8 : Nat) : Int) by omega, aix_nat (show 3 - j / 8 < 4 by omega) (by omega)]
      obtain ⟨y, hy⟩ : ∃ y, shl .u64 l[3 - j / 8] ((8 : Nat) : Int) = some y := by unfold shl; rw [if_neg (by omega)]; exact ⟨_, rfl⟩
      simp only [Option.bind_some, hy, i1 (show j ≤ 100000 by omega)]
      exact fb_loop hl m (j + 1) _ (by omega) (by omega) (hw.set _ (bitsU _ _ _))
    · rw [show decide ((j : Int) < 32) = false from decide_eq_false (by omega)]
      exact ⟨l, rfl, hw⟩
theorem FromBytes_ex {h : List Int} (hl : h.length = 32) : ∃ n, n < 115792089237316195423570985008687907853269984665640564039457584007913129639936 ∧ wide_FromBytes N h = some (U n) := by
  obtain ⟨r, h1, h2⟩ := fb_loop hN hl N 0 (List.replicate 4 0) (by omega) (by omega) ⟨by simp, fun x hx => by have := List.eq_of_mem_replicate hx; omega⟩
  rw [show ((0 : Nat) : Int) = 0 from rfl] at h1
  obtain ⟨n, hn, rfl⟩ := h2.ex
  exact ⟨n, hn, by simp only [wide_FromBytes, arr_ok hl, Option.bind_some, h1, wide_FromBytes_J1, arrU]⟩
def byG (n : Nat) (i : Nat) : Int := IntKind.u8.wrap (((U n).getD (3 - i / 8) 0).fdiv (2 ^ (56 - 8 * (i % 8))))
def byU (n : Nat) : List Int := (List.range 32).map (byG n)
omit hN in
theorem byU_len (n : Nat) : (byU n).length = 32 := by simp [byU]
omit hN in
theorem byU_byt (n : Nat) : Byt (byU n) := by
  intro x hx
  simp only [byU, List.mem_map] at hx
  obtain ⟨i, _, rfl⟩ := hx
  exact u8_byt _
theorem by_loop (n : Nat) : ∀ (m j : Nat), 32 - j < m → j ≤ 32 → wide_Bytes_L2 N (U n) m (j : Int) ((List.range j).map (byG n) ++ List.replicate (32 - j) 0) = some (byU n)
  | 0, j, hm, _ => by omega
  | m + 1, j, hm, hj => by
    rw [wide_Bytes_L2]
    by_cases h : j < 32
    · have hg : aix 4 (U n) ((3 - j / 8 : Nat) : Int) = some ((U n).getD (3 - j / 8) 0) := by
        have : 3 - j / 8 < (U n).length := by rw [U_len]; omega
        rw [aix_nat (show 3 - j / 8 < 4 by omega) this]; simp [this]
      rw [show decide ((j : Int) < 32) = true from decide_eq_true (by omega), if_pos rfl, show (8 : Int) = ((8 : Nat) : Int) from rfl, tdiv_nat, tmod_nat, w64 (a := ((j / 8 : Nat) : Int)) (by omega) (by omega), w64 (a := 3 - ((j / 8 : Nat) : Int)) (by omega) (by omega), show 3 - ((j / 8 : Nat) : Int) = ((3 - j / 8 : Nat) : Int) by omega, hg]
      rw [w64 (a := ((j % 8 : Nat) : Int) * ((8 : Nat) : Int)) (by omega) (by omega), w64 (a := 56 - ((j % 8 : Nat) : Int) * ((8 : Nat) : Int)) (by omega) (by omega), show 56 - ((j % 8 : Nat) : Int) * ((8 : Nat) : Int) = ((56 - 8 * (j % 8) : Nat) : Int) by omega]
      simp only [Option.bind_some]
      rw [shr64 _ _ (by omega), aix_nat h (by simp; omega)]
      simp only [Option.bind_some, Int.toNat_natCast, i1 (show j ≤ 100000 by omega)]
      have := fill_step (byG n) 32 j h
      rw [show IntKind.u8.wrap (((U n).getD (3 - j / 8) 0).fdiv (2 ^ (56 - 8 * (j % 8)))) = byG n j from rfl, this]
      exact by_loop n m (j + 1) (by omega) (by omega)
    · obtain rfl : j = 32 := by omega
      rw [show decide (((32 : Nat) : Int) < 32) = false from rfl]
      simp [byU]
theorem Bytes_U (n : Nat) : wide_Bytes N (U n) = some (byU n) := by
  have := by_loop hN n N 0 (by omega) (by omega)
  simp only [List.range_zero, List.map_nil, List.nil_append, Nat.sub_zero] at this
  rw [show ((0 : Nat) : Int) = 0 from rfl] at this
  simp only [wide_Bytes, this, Option.bind_some, wide_Bytes_J1, arr_ok (byU_len n)]
theorem grow (l : List (List Int)) (hn : l.length ≤ 1000) (h32 : ∀ x ∈ l, x.length = 32) : sign_row N l = some l.flatten := by
  have hfl : l.flatten.length ≤ l.length * 32 := by
    clear hn
    induction l with
    | nil => simp
    | cons x l ih =>
      have h1 := h32 x (by simp)
      have h2 := ih (fun y hy => h32 y (by simp [hy]))
      simp only [List.flatten_cons, List.length_append, List.length_cons]; omega
  have := row_loop (f := sign_row_L2 N l) l hn (by omega) (fun m j acc hj hB => by
    rw [sign_row_L2, dT hj, if_pos rfl, idx_lt l hj, Option.bind_some, arr_ok (h32 _ (List.getElem_mem hj)), Option.bind_some, appB (by omega)]
    simp only [Option.bind_some, i1 (show j ≤ 100000 by omega)]) (fun m j acc hj => by rw [sign_row_L2, dF (by omega)]; rfl) N hN
  unfold sign_row
  rw [this]; rfl
theorem Scalar_ex {h : List Int} (hl : h.length = 32) : ∃ n, n < 57896044618658097711785492504343953926634992332820282019728792003956564801911 ∧ group_Scalar N h = some (U n) := by
  obtain ⟨n, h1, h2⟩ := FromBytes_ex hN hl
  refine ⟨(n + 0) % 57896044618658097711785492504343953926634992332820282019728792003956564801911, Nat.mod_lt _ (by decide), ?_⟩
  rw [show group_Scalar N h = ((arr 32 h).bind fun q => (wide_FromBytes N h).bind fun x4 => (group_AddScalar N x4 [0, 0, 0, 0]).bind fun x6 => (arr 4 x6).bind fun q_1 => some x6) from rfl]
  simp only [arr_ok hl, Option.bind_some, h2, ← U_zero, group_AddScalar, arrU, ord_eq, AddMod_U (b := 57896044618658097711785492504343953926634992332820282019728792003956564801911) hN (by decide) (by decide) h1 (show (0 : Nat) < 115792089237316195423570985008687907853269984665640564039457584007913129639936 by decide)]
def tagC : ByteArray := ⟨#[108, 105, 103, 104, 116, 99, 108, 105, 101, 110, 116, 47, 99, 104, 97, 108, 108, 101, 110, 103, 101]⟩
theorem Challenge_ex {r p : Nat} {m : List Int} (hm : m.length = 32) (hb : Byt m) : ∃ n, n < 57896044618658097711785492504343953926634992332820282019728792003956564801911 ∧ sign_Challenge N (U r) (U p) m = some (U n) := by
  obtain ⟨n, h1, h2⟩ := Scalar_ex hN (tagged_len N tagC (byU r ++ (byU p ++ m)))
  refine ⟨n, h1, ?_⟩
  have hrow : sign_row N [byU r, byU p, m] = some (byU r ++ (byU p ++ m)) := by
    rw [grow hN _ (by simp) (fun x hx => by
      simp only [List.mem_cons, List.not_mem_nil, or_false] at hx
      rcases hx with rfl | rfl | rfl
      · exact byU_len _
      · exact byU_len _
      · exact hm)]
    simp
  have ht := Tagged_eq N hN tagC (by decide) (byU r ++ (byU p ++ m)) ((byU_byt _).append ((byU_byt _).append hb)) (by simp [byU_len, hm])
  simp only [sign_Challenge, arrU, Bytes_U hN, arr_ok hm, arr_ok (byU_len _), hrow, Option.bind_some]
  rw [show (⟨#[108, 105, 103, 104, 116, 99, 108, 105, 101, 110, 116, 47, 99, 104, 97, 108, 108, 101, 110, 103, 101]⟩ : ByteArray) = tagC from rfl, ht]
  simp only [Option.bind_some, h2, arrU]
theorem scalar_U {a : Nat} (ha : a < 115792089237316195423570985008687907853269984665640564039457584007913129639936) : sign_scalar N (U a) = some (decide (a < 57896044618658097711785492504343953926634992332820282019728792003956564801911)) := by
  simp only [sign_scalar, arrU, ord_eq, Option.bind_some, Cmp_U hN ha (show (57896044618658097711785492504343953926634992332820282019728792003956564801911 : Nat) < 115792089237316195423570985008687907853269984665640564039457584007913129639936 by decide), cmplt]
theorem U_one : ([1, 0, 0, 0] : List Int) = U 1 := by decide +kernel
theorem Member_ex {a : Nat} (ha : a < 115792089237316195423570985008687907853269984665640564039457584007913129639936) : ∃ v, group_Member N (U a) = some v := by
  have hJ : ∀ t, ∃ v, group_Member_J1 N (U a) t = some v := by
    intro t
    cases t with
    | true => exact ⟨_, rfl⟩
    | false =>
      simp only [group_Member_J1, Bool.false_eq_true, if_false, arrU, ord_eq, Option.bind_some, Exp_U hN ha (show (57896044618658097711785492504343953926634992332820282019728792003956564801911 : Nat) < 115792089237316195423570985008687907853269984665640564039457584007913129639936 by decide), wide_FromUint, U_one hN]
      exact ⟨_, rfl⟩
  simp only [group_Member, arrU, Option.bind_some, mod_eq, Cmp_U hN ha (show (115792089237316195423570985008687907853269984665640564039457584007913129603823 : Nat) < 115792089237316195423570985008687907853269984665640564039457584007913129639936 by decide)]
  split
  · exact hJ _
  · exact hJ _
theorem Valid_ex {a : Nat} (ha : a < 115792089237316195423570985008687907853269984665640564039457584007913129639936) : ∃ v, sign_Valid N (U a) = some v := by
  obtain ⟨v, hv⟩ := Member_ex hN ha
  simp only [sign_Valid, arrU, wide_FromUint, U_one hN, Option.bind_some, hv]
  split <;> exact ⟨_, rfl⟩
theorem Verify_ex {p e s : Nat} {m : List Int} (hp : p < 115792089237316195423570985008687907853269984665640564039457584007913129639936) (he : e < 115792089237316195423570985008687907853269984665640564039457584007913129639936) (hs : s < 115792089237316195423570985008687907853269984665640564039457584007913129639936) (hm : m.length = 32) (hb : Byt m) : ∃ v, sign_Verify N (U p) m (U e) (U s) = some v := by
  obtain ⟨v, hv⟩ := Valid_ex hN hp
  have hq : (57896044618658097711785492504343953926634992332820282019728792003956564801911 : Nat) < 115792089237316195423570985008687907853269984665640564039457584007913129639936 := by decide
  have hJ : ∀ t, ∃ v, sign_Verify_J1 N (U p) m (U e) (U s) t = some v := by
    intro t
    cases t with
    | true => exact ⟨_, rfl⟩
    | false =>
      have hd : (57896044618658097711785492504343953926634992332820282019728792003956564801911 + 115792089237316195423570985008687907853269984665640564039457584007913129639936 - e) % 115792089237316195423570985008687907853269984665640564039457584007913129639936 < 115792089237316195423570985008687907853269984665640564039457584007913129639936 := Nat.mod_lt _ (by decide)
      have h4 : ([4, 0, 0, 0] : List Int) = U 4 := by decide +kernel
      have hx : ∀ z : Nat, z % 115792089237316195423570985008687907853269984665640564039457584007913129603823 < 115792089237316195423570985008687907853269984665640564039457584007913129639936 := fun z => Nat.lt_trans (Nat.mod_lt z (by decide)) (by decide)
      simp only [sign_Verify_J1, Bool.false_eq_true, if_false, arrU, ord_eq, Option.bind_some, Sub_U hN hq he, group_Power, wide_FromUint, h4, Exp_U hN (show (4 : Nat) < 115792089237316195423570985008687907853269984665640564039457584007913129639936 by decide) hs, Exp_U hN hp hd, gMul hN (hx _) (hx _), arr_ok hm]
      obtain ⟨n, _, hn⟩ := Challenge_ex hN (r := 4 ^ s % 115792089237316195423570985008687907853269984665640564039457584007913129603823 * (p ^ ((57896044618658097711785492504343953926634992332820282019728792003956564801911 + 115792089237316195423570985008687907853269984665640564039457584007913129639936 - e) % 115792089237316195423570985008687907853269984665640564039457584007913129639936) % 115792089237316195423570985008687907853269984665640564039457584007913129603823) % 115792089237316195423570985008687907853269984665640564039457584007913129603823) (p := p) hm hb
      rw [hn]
      exact ⟨_, rfl⟩
  simp only [sign_Verify, arrU, Option.bind_some, scalar_U hN he, scalar_U hN hs, hv]
  split
  · exact hJ _
  · split
    · exact hJ _
    · exact hJ _
theorem Decode_ex {b : List Int} : ∃ e s r, e < 115792089237316195423570985008687907853269984665640564039457584007913129639936 ∧ s < 115792089237316195423570985008687907853269984665640564039457584007913129639936 ∧ sign_Decode N b = some (U e, U s, r) := by
  have h0 : List.replicate 4 (0 : Int) = U 0 := by decide +kernel
  unfold sign_Decode
  by_cases hl : b.length = 64
  · rw [show (((b.length : Nat) : Int) != 64) = false by rw [hl]; rfl]
    have e1 : sub b 0 32 = some (b.take 32) := by unfold sub; rw [if_pos ⟨by omega, by omega, by omega⟩]; simp
    have e2 : sub b 32 (b.length : Int) = some (b.drop 32) := by
      unfold sub; rw [if_pos ⟨by omega, by omega, by omega⟩, Int.toNat_natCast, List.take_of_length_le (Nat.le_refl _)]; rfl
    have l1 : (b.take 32).length = 32 := by simp; omega
    have l2 : (b.drop 32).length = 32 := by simp; omega
    have a1 : arp 32 (b.take 32) = some (b.take 32) := by unfold arp; rw [if_pos (by omega), List.take_of_length_le (by omega)]
    have a2 : arp 32 (b.drop 32) = some (b.drop 32) := by unfold arp; rw [if_pos (by omega), List.take_of_length_le (by omega)]
    obtain ⟨e, h1, h2⟩ := FromBytes_ex hN l1
    obtain ⟨s, h3, h4⟩ := FromBytes_ex hN l2
    have hJ : ∀ t, ∃ e' s' r, e' < 115792089237316195423570985008687907853269984665640564039457584007913129639936 ∧ s' < 115792089237316195423570985008687907853269984665640564039457584007913129639936 ∧ sign_Decode_J1 N (U e) (U s) t = some (U e', U s', r) := by
      intro t
      cases t with
      | true => exact ⟨0, 0, 5, by decide, by decide, by unfold sign_Decode_J1; rw [h0]; rfl⟩
      | false => exact ⟨e, s, 0, h1, h3, rfl⟩
    simp only [Bool.false_eq_true, if_false, e1, e2, a1, a2, h2, h4, Option.bind_some, arrU, scalar_U hN h1, scalar_U hN h3]
    split
    · exact hJ _
    · exact hJ _
  · rw [show (((b.length : Nat) : Int) != 64) = true by simp; omega, if_pos rfl, h0]
    exact ⟨0, 0, 8, by decide, by decide, rfl⟩
theorem verify_ex {m : List Int} (hm : m.length = 32) (hb : Byt m) (h a : Int) (st : List (List Int)) (br : List S_script_branch) (c : Int) (key sig : List Int) : ∃ e, script_machine_verify N m h a st br c key sig = some e := by
  have hJ : ∀ t, ∃ e, script_machine_verify_J1 N m h a st br c t = some e := fun t => by cases t <;> exact ⟨_, rfl⟩
  unfold script_machine_verify
  by_cases hl : key.length = 32
  · rw [show (((key.length : Nat) : Int) != 32) = false by rw [hl]; rfl]
    have a1 : arp 32 key = some key := by unfold arp; rw [if_pos (by omega), List.take_of_length_le (by omega)]
    obtain ⟨p, h1, h2⟩ := FromBytes_ex hN hl
    obtain ⟨v, hv⟩ := Valid_ex hN h1
    simp only [Bool.false_eq_true, if_false, a1, h2, Option.bind_some, arrU, hv]
    split
    · exact ⟨_, rfl⟩
    · split
      · exact ⟨_, rfl⟩
      · obtain ⟨e, s, r, h3, h4, h5⟩ := Decode_ex hN (b := sig)
        simp only [h5, Option.bind_some]
        split
        · exact hJ _
        · obtain ⟨w, hw⟩ := Verify_ex hN h1 h3 h4 hm hb
          simp only [arr_ok hm, Option.bind_some, hw]
          exact hJ _
  · rw [show (((key.length : Nat) : Int) != 32) = true by simp; omega]
    exact ⟨_, rfl⟩
end
end Go.Proofs.YtokmcbfnfmpemaaDoor
set_option linter.unusedSimpArgs false
set_option linter.unusedVariables false
set_option linter.unusedSectionVars false
namespace Go.Proofs.YtokmcbfnfmpemaaDoor
open Go Go.Vm
theorem crow {N : Nat} (hN : 70000 ≤ N) (l : List (List Int)) (hn : l.length ≤ 1000) (ht : l.flatten.length ≤ 50000000) : script_row N l = some l.flatten := by
  have := row_loop (f := script_row_L2 N l) l hn ht (fun m j acc hj hB => by
    rw [script_row_L2, dT hj, if_pos rfl, idx_lt l hj, Option.bind_some, appB (by omega)]
    simp only [Option.bind_some, i1 (show j ≤ 100000 by omega)]) (fun m j acc hj => by rw [script_row_L2, dF (by omega)]; rfl) N hN
  unfold script_row
  rw [this]; rfl
def rangeB (m n : Int) : Bool := decide (1 ≤ n) && decide (n ≤ 15) && decide (1 ≤ m) && decide (m ≤ n)
theorem range_eq (N : Nat) (m n : Int) : script_inRange N m n = some (rangeB m n) := by
  unfold script_inRange rangeB script_inRange_J1
  cases decide (1 ≤ n) <;> cases decide (n ≤ 15) <;> cases decide (1 ≤ m) <;> rfl
def nextR (x : Int) (r : List Int) : S_api_Op × List Int × Int :=
  if x < 1 ∨ 17 < x then (⟨0, [], 0, 0⟩, [], 80)
  else if x = 1 then
    match r with
    | [] => (⟨0, [], 0, 0⟩, [], 1)
    | n :: r' => if (r'.length : Int) < n then (⟨0, [], 0, 0⟩, [], 1) else (⟨1, r'.take n.toNat, 0, 0⟩, r'.drop n.toNat, 0)
  else if x = 11 then
    match r with
    | m :: n :: r' => if rangeB m n = true then (⟨11, [], m, n⟩, r', 0) else (⟨0, [], 0, 0⟩, [], 5)
    | _ => (⟨0, [], 0, 0⟩, [], 1)
  else (⟨x, [], 0, 0⟩, r, 0)
theorem idx0 {α : Type} (x : α) (l : List α) : idx (x :: l) 0 = some x := rfl
theorem idx1 {α : Type} (x y : α) (l : List α) : idx (x :: y :: l) 1 = some y := rfl
theorem sub1 {α : Type} (x : α) (l : List α) : sub (x :: l) 1 (((x :: l).length : Nat) : Int) = some l := by
  unfold sub
  rw [if_pos ⟨by omega, by simp; omega, by omega⟩, Int.toNat_natCast, List.take_of_length_le (Nat.le_refl _)]; rfl
theorem sub2 {α : Type} (x y : α) (l : List α) : sub (x :: y :: l) 2 (((x :: y :: l).length : Nat) : Int) = some l := by
  unfold sub
  rw [if_pos ⟨by omega, by simp; omega, by omega⟩, Int.toNat_natCast, List.take_of_length_le (Nat.le_refl _)]; rfl
theorem next_eq {N : Nat} (hN : 70000 ≤ N) {x : Int} {r : List Int} (hb : Byt (x :: r)) (hl : r.length ≤ 100000) :
    script_next N (x :: r) = some ((nextR x r).1.Code, (nextR x r).1.Data, (nextR x r).1.M, (nextR x r).1.N, (nextR x r).2.1, (nextR x r).2.2) := by
  have hx := hb x (by simp)
  have wx : IntKind.i64.wrap x = x := w64 (by omega) (by omega)
  have hk : script_known N x = some (decide (1 ≤ x) && decide (x ≤ 17)) := by
    unfold script_known script_known_J1
    cases decide (1 ≤ x) <;> rfl
  unfold script_next nextR
  simp only [idx0, Option.bind_some, wx, hk, sub1]
  by_cases h0 : x < 1 ∨ 17 < x
  · rw [if_pos h0]
    have : (decide (1 ≤ x) && decide (x ≤ 17)) = false := by
      rcases h0 with h | h
      · rw [decide_eq_false (by omega)]; rfl
      · rw [decide_eq_false (show ¬ x ≤ 17 by omega), Bool.and_false]
    rw [this]; rfl
  · rw [if_neg h0, show (decide (1 ≤ x) && decide (x ≤ 17)) = true by rw [decide_eq_true (by omega), decide_eq_true (by omega)]; rfl]
    simp only [Bool.not_true, Bool.false_eq_true, if_false]
    by_cases h1 : x = 1
    · subst h1
      rw [if_pos rfl, show ((1 : Int) == 1) = true from rfl, if_pos rfl]
      match r, hb, hl with
      | [], _, _ => rfl
      | n :: r', hb, hl =>
        have hn := hb n (by simp)
        have wn : IntKind.i64.wrap n = n := w64 (by omega) (by omega)
        rw [show ((((n :: r').length : Nat) : Int) == 0) = false by simp; omega]
        simp only [Bool.false_eq_true, if_false, idx0, Option.bind_some, wn]
        have hl' : r'.length + 1 ≤ 100000 := by simpa using hl
        rw [show (((n :: r').length : Nat) : Int) - 1 = ((r'.length : Nat) : Int) by simp, w64 (a := ((r'.length : Nat) : Int)) (by omega) (by omega)]
        by_cases h2 : (r'.length : Int) < n
        · rw [decide_eq_true h2, if_pos h2]; rfl
        · rw [decide_eq_false h2, if_neg h2]
          have e1 : sub (n :: r') 1 (IntKind.i64.wrap (1 + n)) = some (r'.take n.toNat) := by
            rw [w64 (by omega) (by omega)]
            unfold sub
            rw [if_pos ⟨by omega, by omega, by simp; omega⟩, show (1 + n).toNat = n.toNat + 1 by omega]; rfl
          have e2 : sub (n :: r') (IntKind.i64.wrap (1 + n)) (((n :: r').length : Nat) : Int) = some (r'.drop n.toNat) := by
            rw [w64 (by omega) (by omega)]
            unfold sub
            rw [if_pos ⟨by omega, by simp; omega, by omega⟩, show (1 + n).toNat = n.toNat + 1 by omega, Int.toNat_natCast, List.take_of_length_le (Nat.le_refl _)]; rfl
          have e3 : script_row N [r'.take n.toNat] = some (r'.take n.toNat) := by
            rw [crow hN _ (by simp) (by simp; omega)]; simp
          simp only [script_next_J2, Bool.false_eq_true, if_false, idx0, Option.bind_some, wn, e1, e2, e3, script_next_J1]
          rfl
    · rw [if_neg h1, show (x == 1) = false by simpa using h1]
      simp only [Bool.false_eq_true, if_false]
      by_cases h2 : x = 11
      · subst h2
        rw [if_pos rfl, show ((11 : Int) == 11) = true from rfl, if_pos rfl]
        match r, hb, hl with
        | [], _, _ => rfl
        | [m], _, _ => rfl
        | m :: n :: r', hb, hl =>
          have hm := hb m (by simp)
          have hn := hb n (by simp)
          have wm : IntKind.i64.wrap m = m := w64 (by omega) (by omega)
          have wn : IntKind.i64.wrap n = n := w64 (by omega) (by omega)
          rw [show decide ((((m :: n :: r').length : Nat) : Int) < 2) = false from decide_eq_false (by simp; omega)]
          simp only [Bool.false_eq_true, if_false, idx0, idx1, Option.bind_some, wm, wn, sub2, script_next_J3, range_eq]
          cases hr : rangeB m n with
          | false => rfl
          | true => rfl
      · rw [if_neg h2, show (x == 11) = false by simpa using h2]
        simp only [Bool.false_eq_true, if_false, script_next_J1, wx]
structure VOp (o : S_api_Op) : Prop where
  data : Byt o.Data ∧ o.Data.length ≤ 255
  multi : o.Code = 11 → 1 ≤ o.M ∧ o.M ≤ o.N ∧ o.N ≤ 15
theorem nextR_ok {x : Int} {r : List Int} (hb : Byt (x :: r)) (he : (nextR x r).2.2 = 0) : VOp (nextR x r).1 ∧ Byt (nextR x r).2.1 ∧ (nextR x r).2.1.length ≤ r.length ∧ ∀ t, nextR x (r ++ t) = ((nextR x r).1, (nextR x r).2.1 ++ t, 0) := by
  have hr : Byt r := fun y hy => hb y (by simp [hy])
  unfold nextR at he ⊢
  by_cases h0 : x < 1 ∨ 17 < x
  · rw [if_pos h0] at he; cases he
  · simp only [if_neg h0] at he ⊢
    by_cases h1 : x = 1
    · subst h1
      simp only [if_true] at he ⊢
      match r, hr, he with
      | [], _, he => cases he
      | n :: r', hr, he =>
        simp only at he ⊢
        by_cases h2 : (r'.length : Int) < n
        · rw [if_pos h2] at he; cases he
        · simp only [if_neg h2] at he ⊢
          have hn := hr n (by simp)
          have hr' : Byt r' := fun y hy => hr y (by simp [hy])
          refine ⟨⟨⟨byt_take hr' _, by simp; omega⟩, fun h => by simp at h⟩, byt_drop hr' _, by simp; omega, fun t => ?_⟩
          simp only [List.cons_append]
          rw [if_neg (by simp; omega), List.take_append_of_le_length (by omega), List.drop_append_of_le_length (by omega)]
    · simp only [if_neg h1] at he ⊢
      by_cases h2 : x = 11
      · subst h2
        simp only [if_true] at he ⊢
        match r, hr, he with
        | [], _, he => cases he
        | [_], _, he => cases he
        | m :: n :: r', hr, he =>
          simp only [List.cons_append] at he ⊢
          by_cases h3 : rangeB m n = true
          · simp only [if_pos h3] at he ⊢
            refine ⟨⟨⟨fun y hy => by simp at hy, by simp⟩, fun _ => ?_⟩, fun y hy => hr y (by simp [hy]), by simp; omega, fun t => trivial⟩
            simp only [rangeB, Bool.and_eq_true, decide_eq_true_eq] at h3
            exact ⟨h3.1.2, h3.2, h3.1.1.2⟩
          · rw [if_neg h3] at he; cases he
      · simp only [if_neg h2] at he ⊢
        exact ⟨⟨⟨fun y hy => by simp at hy, by simp⟩, fun h => absurd h h2⟩, hr, Nat.le_refl _, fun t => trivial⟩
def parseR : Nat → List Int → List S_api_Op → LR (List S_api_Op) (List S_api_Op × Int)
  | 0, _, acc => .brk acc
  | _ + 1, [], acc => .brk acc
  | k + 1, x :: r, acc => if (nextR x r).2.2 = 0 then parseR k (nextR x r).2.1 (acc ++ [(nextR x r).1]) else .ret ([], (nextR x r).2.2)
theorem parse_loop {N : Nat} (hN : 70000 ≤ N) : ∀ (m : Nat) (b : List Int) (acc : List S_api_Op), b.length < m → Byt b → b.length ≤ 100000 → acc.length + b.length ≤ 200000 → script_Parse_L2 N m b acc = some (parseR m b acc)
  | 0, b, acc, hm, _, _, _ => by omega
  | m + 1, [], acc, _, _, _, _ => rfl
  | m + 1, x :: r, acc, hm, hb, hl, ha => by
    simp only [List.length_cons] at hm hl ha
    rw [script_Parse_L2, show decide ((0 : Int) < (((x :: r).length : Nat) : Int)) = true from decide_eq_true (by rw [List.length_cons]; omega), if_pos rfl, next_eq hN hb (by omega)]
    simp only [Option.bind_some, parseR]
    by_cases he : (nextR x r).2.2 = 0
    · obtain ⟨h1, h2, h3, _⟩ := nextR_ok hb he
      rw [if_pos he, he, show ((0 : Int) != 0) = false from rfl]
      have hlim := lim_big2
      simp only [Bool.false_eq_true, if_false]
      rw [app_ok (by simp; omega)]
      simp only [Option.bind_some]
      exact parse_loop hN m _ _ (by omega) h2 (by omega) (by simp; omega)
    · rw [if_neg he, show ((nextR x r).2.2 != 0) = true by simpa using he]
      rfl
theorem parseR_fuel : ∀ (k k' : Nat) (b : List Int) (acc : List S_api_Op), Byt b → b.length < k → b.length < k' → parseR k b acc = parseR k' b acc
  | 0, _, b, _, _, hk, _ => by omega
  | k + 1, 0, b, _, _, _, hk => by omega
  | k + 1, k' + 1, [], acc, _, _, _ => rfl
  | k + 1, k' + 1, x :: r, acc, hb, h1, h2 => by
    simp only [List.length_cons] at h1 h2
    simp only [parseR]
    by_cases he : (nextR x r).2.2 = 0
    · obtain ⟨_, h4, h3, _⟩ := nextR_ok hb he
      rw [if_pos he, if_pos he]
      exact parseR_fuel k k' _ _ h4 (by omega) (by omega)
    · rw [if_neg he, if_neg he]
theorem parseR_ok : ∀ (k : Nat) (b : List Int) (acc l : List S_api_Op), Byt b → b.length < k → (∀ o ∈ acc, VOp o) → parseR k b acc = .brk l → (∀ o ∈ l, VOp o) ∧ l.length ≤ acc.length + b.length ∧ ∀ (t : List Int) (k' : Nat), Byt t → b.length + t.length < k' → parseR k' (b ++ t) acc = parseR (t.length + 1) t l
  | 0, b, _, _, _, hk, _, _ => by omega
  | k + 1, [], acc, l, _, _, hv, h => by
    injection h with h
    subst h
    refine ⟨hv, by simp, fun t k' ht hk => ?_⟩
    rw [List.nil_append]
    exact parseR_fuel _ _ _ _ ht (by simpa using hk) (by omega)
  | k + 1, x :: r, acc, l, hb, hk, hv, h => by
    simp only [List.length_cons] at hk
    simp only [parseR] at h
    by_cases he : (nextR x r).2.2 = 0
    · obtain ⟨h1, h4, h3, h5⟩ := nextR_ok hb he
      rw [if_pos he] at h
      obtain ⟨g1, g2, g3⟩ := parseR_ok k _ _ l h4 (by omega) (fun o ho => (List.mem_append.1 ho).elim (hv o) (fun hh => by simp only [List.mem_singleton] at hh; exact hh ▸ h1)) h
      refine ⟨g1, by simp at g2 ⊢; omega, fun t k' ht hk' => ?_⟩
      obtain ⟨k', rfl⟩ : ∃ q, k' = q + 1 := ⟨k' - 1, by omega⟩
      simp only [List.length_cons] at hk'
      rw [List.cons_append, parseR, h5 t]
      simp only [if_true]
      exact g3 t k' ht (by omega)
    · rw [if_neg he] at h; cases h
def parsed (b : List Int) : List S_api_Op × Int := if 520 < b.length then ([], 4) else match parseR (b.length + 1) b [] with | .ret v => v | .brk l => (l, 0)
theorem parse_eq {N : Nat} (hN : 70000 ≤ N) {b : List Int} (hb : Byt b) : script_Parse N b = some (parsed b) := by
  unfold script_Parse parsed
  by_cases h : 520 < b.length
  · rw [show decide ((520 : Int) < ((b.length : Nat) : Int)) = true from decide_eq_true (by omega), if_pos rfl, if_pos h]
  · rw [show decide ((520 : Int) < ((b.length : Nat) : Int)) = false from decide_eq_false (by omega), if_neg h, parse_loop hN N b [] (by omega) hb (by omega) (by simp; omega), parseR_fuel N (b.length + 1) b [] hb (by omega) (by omega)]
    cases parseR (b.length + 1) b [] <;> rfl
theorem parseR_ret : ∀ (k : Nat) (b : List Int) (acc : List S_api_Op) (v : List S_api_Op × Int), parseR k b acc = .ret v → v.1 = [] ∧ v.2 ≠ 0
  | 0, _, _, _, h => by cases h
  | k + 1, [], _, _, h => by cases h
  | k + 1, x :: r, acc, v, h => by
    simp only [parseR] at h
    by_cases he : (nextR x r).2.2 = 0
    · rw [if_pos he] at h; exact parseR_ret k _ _ v h
    · rw [if_neg he] at h; injection h with h; subst h; exact ⟨rfl, he⟩
theorem parsed_ok {b : List Int} (hb : Byt b) (h : (parsed b).2 = 0) : (∀ o ∈ (parsed b).1, VOp o) ∧ (parsed b).1.length ≤ 520 ∧ b.length ≤ 520 ∧ parseR (b.length + 1) b [] = .brk (parsed b).1 := by
  unfold parsed at h ⊢
  by_cases hl : 520 < b.length
  · rw [if_pos hl] at h; cases h
  · simp only [if_neg hl] at h ⊢
    cases hp : parseR (b.length + 1) b [] with
    | ret v => rw [hp] at h; exact absurd h (parseR_ret _ _ _ _ hp).2
    | brk l =>
      obtain ⟨g1, g2, _⟩ := parseR_ok _ b [] l hb (by omega) (by simp) hp
      exact ⟨g1, by simp at g2; show l.length ≤ 520; omega, by omega, rfl⟩
theorem parsed_app {a b : List Int} (ha : Byt a) (hb : Byt b) (h1 : (parsed a).2 = 0) (h2 : (parsed b).2 = 0) (hl : a.length + b.length ≤ 520) : parsed (a ++ b) = ((parsed a).1 ++ (parsed b).1, 0) := by
  obtain ⟨_, _, _, p1⟩ := parsed_ok ha h1
  obtain ⟨_, _, _, p2⟩ := parsed_ok hb h2
  obtain ⟨_, _, g⟩ := parseR_ok _ a [] _ ha (by omega) (by simp) p1
  have e1 := g b ((a ++ b).length + 1) hb (by rw [List.length_append]; omega)
  have acc : ∀ (k : Nat) (b : List Int) (acc l : List S_api_Op), parseR k b [] = .brk l → parseR k b acc = .brk (acc ++ l) := by
    intro k
    have gen : ∀ (k : Nat) (b : List Int) (acc acc' l : List S_api_Op), parseR k b acc = .brk l → ∃ l', l = acc ++ l' ∧ parseR k b acc' = .brk (acc' ++ l') := by
      intro k
      induction k with
      | zero => intro b acc acc' l h; injection h with h; exact ⟨[], by simp [h], by simp [parseR]⟩
      | succ k ih =>
        intro b acc acc' l h
        match b with
        | [] => injection h with h; exact ⟨[], by simp [h], by simp [parseR]⟩
        | x :: r =>
          simp only [parseR] at h ⊢
          by_cases he : (nextR x r).2.2 = 0
          · rw [if_pos he] at h ⊢
            obtain ⟨l', e1, e2⟩ := ih _ _ (acc' ++ [(nextR x r).1]) _ h
            exact ⟨(nextR x r).1 :: l', by rw [e1]; simp, by rw [e2]; simp⟩
          · rw [if_neg he] at h; cases h
    intro b acc l h
    obtain ⟨l', e1, e2⟩ := gen k b [] acc l h
    rw [List.nil_append] at e1
    rw [e1]; exact e2
  rw [acc _ _ (parsed a).1 _ p2] at e1
  unfold parsed at e1 ⊢
  rw [if_neg (show ¬ 520 < (a ++ b).length by simp; omega), e1]
end Go.Proofs.YtokmcbfnfmpemaaDoor
set_option linter.unusedSimpArgs false
set_option linter.unusedVariables false
set_option linter.unusedSectionVars false
namespace Go.Proofs.YtokmcbfnfmpemaaDoor
open Go Go.Vm
def flagB (v : Bool) : List Int := if v then [1] else []
theorem flagB_ok (v : Bool) : Byt (flagB v) ∧ (flagB v).length ≤ 520 := by
  cases v
  · exact ⟨fun x hx => by simp [flagB] at hx, by decide⟩
  · exact ⟨fun x hx => by simp [flagB] at hx; omega, by decide⟩
theorem item_loop (N : Nat) : ∀ (m k n : Nat) (acc : List Int), n < 256 ^ k → k < m → k ≤ 10 → acc.length + k ≤ 1000 → Byt acc → n < 4294967296 → ∃ r, script_Item_L2 N m (n : Int) acc = some r ∧ Byt r ∧ r.length ≤ acc.length + k
  | 0, k, n, acc, _, hm, _, _, _, _ => by omega
  | m + 1, k, n, acc, hn, hm, hk, ha, hb, h32 => by
    rw [script_Item_L2]
    by_cases h : 0 < n
    · match k, hn with
      | 0, hn => simp at hn; omega
      | k + 1, hn =>
        rw [show decide ((0 : Int) < (n : Int)) = true from decide_eq_true (by omega), if_pos rfl, appB (by simp; omega)]
        simp only [Option.bind_some]
        rw [show shr .u32 (n : Int) 8 = some ((n / 256 : Nat) : Int) from shr_nat n 8 h32, Option.bind_some]
        rw [Nat.pow_succ] at hn
        obtain ⟨r, h1, h2, h3⟩ := item_loop N m k (n / 256) (acc ++ [IntKind.u8.wrap (n : Int)]) ((Nat.div_lt_iff_lt_mul (by omega)).2 hn) (by omega) (by omega) (by simp; omega) (hb.append (fun x hx => by simp only [List.mem_singleton] at hx; exact hx ▸ u8_byt _)) (by omega)
        exact ⟨r, h1, h2, by simp at h3; omega⟩
    · rw [show decide ((0 : Int) < (n : Int)) = false from decide_eq_false (by omega)]
      exact ⟨acc, rfl, hb, by omega⟩
def itemE (N : Nat) (n : Int) : List Int := (script_Item N n).getD []
section
variable {N : Nat} (hN : 70000 ≤ N)
include hN
theorem item_ok {n : Nat} (h : n < 4294967296) : script_Item N (n : Int) = some (itemE N n) ∧ Byt (itemE N n) ∧ (itemE N n).length ≤ 520 := by
  obtain ⟨r, h1, h2, h3⟩ := item_loop N N 4 n [] (by simpa using h) (by omega) (by omega) (by simp) (fun x hx => by simp at hx) h
  have : script_Item N (n : Int) = some r := by simp only [script_Item, h1, Option.bind_some, script_Item_J1]
  rw [show itemE N n = r by simp [itemE, this]]
  exact ⟨this, h2, by simp at h3; omega⟩
theorem flag_eq (v : Bool) : script_flag N v = some (flagB v) := by
  obtain ⟨m, hm⟩ := fuel5 (fun q => script_Item_L2 N q 1 []) hN
  obtain ⟨m', hm'⟩ := fuel5 (fun q => script_Item_L2 N q 0 []) hN
  cases v with
  | false =>
    simp only [script_flag, Bool.false_eq_true, if_false, script_Item, hm']
    rfl
  | true =>
    simp only [script_flag, if_true, script_Item, hm]
    rw [script_Item_L2, show decide ((0 : Int) < 1) = true from rfl, if_pos rfl, appB (by simp)]
    simp only [Option.bind_some]
    rw [show shr .u32 1 8 = some 0 from by decide +kernel, Option.bind_some, script_Item_L2]
    rfl
def numE (N : Nat) (b : List Int) : Int × Int := (script_Number N b).getD (0, 0)
theorem num_ok (b : List Int) : script_Number N b = some (numE N b) := by
  have hloop : b.length ≤ 4 → ∀ (m j : Nat) (v : Int), b.length - j < m → j ≤ b.length → ∃ r, script_Number_L3 N b m v (j : Int) = some r := by
    intro hl m
    induction m with
    | zero => intro j v hm _; omega
    | succ m ih =>
      intro j v hm hj
      rw [script_Number_L3]
      by_cases h : j < b.length
      · obtain ⟨y, hy⟩ : ∃ y, shl .u32 (IntKind.u32.wrap b[j]) (IntKind.i64.wrap (8 * (j : Int))) = some y := by
          rw [w64 (by omega) (by omega)]; unfold shl; rw [if_neg (by omega)]; exact ⟨_, rfl⟩
        rw [dT h, if_pos rfl, idx_lt b h]
        simp only [Option.bind_some, hy, i1 (show j ≤ 100000 by omega)]
        exact ih (j + 1) _ (by omega) (by omega)
      · rw [dF h]; exact ⟨v, rfl⟩
  have hJ : b.length ≤ 4 → ∀ t, ∃ r, script_Number_J1 N b t = some r := by
    intro hl t
    cases t with
    | true => exact ⟨_, rfl⟩
    | false =>
      obtain ⟨r, hr⟩ := hloop hl N 0 0 (by omega) (by omega)
      rw [show ((0 : Nat) : Int) = 0 from rfl] at hr
      simp only [script_Number_J1, Bool.false_eq_true, if_false, hr, Option.bind_some, script_Number_J2]
      exact ⟨_, rfl⟩
  have : ∃ r, script_Number N b = some r := by
    unfold script_Number
    by_cases h : 4 < b.length
    · rw [show decide ((4 : Int) < ((b.length : Nat) : Int)) = true from decide_eq_true (by omega)]
      exact ⟨_, rfl⟩
    · rw [show decide ((4 : Int) < ((b.length : Nat) : Int)) = false from decide_eq_false (by omega)]
      simp only [Bool.false_eq_true, if_false]
      by_cases h2 : 0 < b.length
      · rw [show decide ((0 : Int) < ((b.length : Nat) : Int)) = true from decide_eq_true (by omega), if_pos rfl, w64 (by omega) (by omega), show ((b.length : Nat) : Int) - 1 = ((b.length - 1 : Nat) : Int) by omega, idx_lt b (by omega)]
        exact hJ (by omega) _
      · rw [show decide ((0 : Int) < ((b.length : Nat) : Int)) = false from decide_eq_false (by omega)]
        show ∃ r, script_Number_J1 N b false = some r
        exact hJ (by omega) _
  obtain ⟨r, hr⟩ := this
  simp [numE, hr]
def locE (N : Nat) (item : List Int) (now : Int) : Int := if (numE N item).2 != 0 then (numE N item).2 else if decide (now < IntKind.i64.wrap (numE N item).1) then 85 else 0
theorem loc_eq (item : List Int) (now : Int) : script_locked N item now = some (locE N item now) := by
  simp only [script_locked, num_ok hN, Option.bind_some, locE]
  split
  · rfl
  · split <;> rfl
def truthE (b : List Int) : Bool := b.any (· != 0)
theorem truth_eq {b : List Int} (hl : b.length ≤ 60000) : script_truth N b = some (truthE b) := by
  have := loop_all (f := script_truth_L2 N b) (xs := b) (p := fun x => !(x != 0)) (r := true) (fun m j hj => by
      rw [script_truth_L2, dT hj, if_pos rfl, idx_lt b hj]
      simp only [Option.bind_some, i1 (show j ≤ 100000 by omega)]
      cases b[j] != 0 <;> rfl) (fun m j hj => by rw [script_truth_L2, dF (by omega)]; rfl) N 0 (by omega) (by omega)
  rw [show ((0 : Nat) : Int) = 0 from rfl, List.drop_zero] at this
  unfold script_truth truthE
  rw [this, List.any_eq_not_all_not]
  cases b.all fun x => !(x != 0) <;> rfl
end
structure WS (st : List (List Int)) : Prop where
  len : st.length ≤ 64
  it : ∀ x ∈ st, Byt x ∧ x.length ≤ 520
theorem WS.push {st : List (List Int)} (h : WS st) (hl : st.length < 64) {x : List Int} (hx : Byt x ∧ x.length ≤ 520) : WS (st ++ [x]) :=
  ⟨by simp; omega, fun y hy => (List.mem_append.1 hy).elim (h.it y) (fun e => by simp only [List.mem_singleton] at e; exact e ▸ hx)⟩
theorem WS.take {st : List (List Int)} (h : WS st) (k : Nat) : WS (st.take k) := ⟨by have := h.len; simp; omega, fun y hy => h.it y (List.mem_of_mem_take hy)⟩
theorem WS.set {st : List (List Int)} (h : WS st) (i : Nat) {x : List Int} (hx : Byt x ∧ x.length ≤ 520) : WS (st.set i x) := ⟨by rw [List.length_set]; exact h.len, fun y hy => (List.mem_or_eq_of_mem_set hy).elim (h.it y) (fun e => e ▸ hx)⟩
def itm (st : List (List Int)) (k : Nat) : List Int := st.getD (st.length - k) []
theorem itm_ok {st : List (List Int)} (h : WS st) {k : Nat} (h1 : 1 ≤ k) (hk : k ≤ st.length) : Byt (itm st k) ∧ (itm st k).length ≤ 520 ∧ idx st (IntKind.i64.wrap (((st.length : Nat) : Int) - (k : Int))) = some (itm st k) := by
  have hl := h.len
  have hlt : st.length - k < st.length := by omega
  have e : itm st k = st[st.length - k] := by simp [itm, hlt]
  rw [w64 (by omega) (by omega), show ((st.length : Nat) : Int) - (k : Int) = ((st.length - k : Nat) : Int) by omega, idx_lt st hlt, e]
  exact ⟨(h.it _ (List.getElem_mem hlt)).1, (h.it _ (List.getElem_mem hlt)).2, rfl⟩
theorem drop_eq {N : Nat} {m : List Int} {h a : Int} {st : List (List Int)} {br : List S_script_branch} {c : Int} (hs : st.length ≤ 64) {k : Nat} (hk : k ≤ st.length) : script_machine_drop N m h a st br c (k : Int) = some (m, h, a, st.take (st.length - k), br, c) := by
  unfold script_machine_drop
  rw [w64 (by omega) (by omega), show ((st.length : Nat) : Int) - (k : Int) = ((st.length - k : Nat) : Int) by omega]
  have : sub st 0 ((st.length - k : Nat) : Int) = some (st.take (st.length - k)) := by
    unfold sub; rw [if_pos ⟨by omega, by omega, by omega⟩]; simp
  rw [this]; rfl
theorem app24 {l m : List (List Int)} (h : l.length + m.length ≤ 1000000) : app 24 l m = some (l ++ m) := by
  have := lim_big2
  exact app_ok (by omega)
theorem replace_eq {N : Nat} {m : List Int} {h a : Int} {st : List (List Int)} {br : List S_script_branch} {c : Int} (hs : st.length ≤ 64) {k : Nat} (hk : k ≤ st.length) (x : List Int) : script_machine_replace N m h a st br c (k : Int) x = some (m, h, a, st.take (st.length - k) ++ [x], br, c) := by
  unfold script_machine_replace
  rw [drop_eq hs hk, Option.bind_some, app24 (by simp; omega)]; rfl
def pushR (st : List (List Int)) (x : List Int) : Int × List (List Int) := if 64 ≤ st.length then (4, st) else (0, st ++ [x])
theorem push_eq {N : Nat} {m : List Int} {h a : Int} {st : List (List Int)} {br : List S_script_branch} {c : Int} (x : List Int) : script_machine_push N m h a st br c x = some ((pushR st x).1, m, h, a, (pushR st x).2, br, c) := by
  unfold script_machine_push pushR
  by_cases hl : 64 ≤ st.length
  · rw [show decide ((64 : Int) ≤ ((st.length : Nat) : Int)) = true from decide_eq_true (by omega), if_pos rfl, if_pos hl]
  · rw [show decide ((64 : Int) ≤ ((st.length : Nat) : Int)) = false from decide_eq_false (by omega), if_neg hl, app24 (by simp; omega)]; rfl
def verE (N : Nat) (m key sig : List Int) : Int := (script_machine_verify N m 0 0 [] [] 0 key sig).getD 0
theorem ver_eq {N : Nat} (hN : 70000 ≤ N) {m : List Int} (hm : m.length = 32) (hb : Byt m) (h a : Int) (st : List (List Int)) (br : List S_script_branch) (c : Int) (key sig : List Int) : script_machine_verify N m h a st br c key sig = some (verE N m key sig) := by
  obtain ⟨e, he⟩ := verify_ex hN hm hb 0 0 [] [] 0 key sig
  have h1 : script_machine_verify N m h a st br c key sig = script_machine_verify N m 0 0 [] [] 0 key sig := rfl
  rw [h1, show verE N m key sig = e by simp [verE, he], he]
def sigR (N : Nat) (m : List Int) : List (List Int) → List (List Int) → Int → Int × Int
  | k :: ks, s :: ss, c => if verE N m k s != 0 then (verE N m k s, 0) else sigR N m ks ss (if decide (0 < (s.length : Int)) then c + 1 else c)
  | _, _, c => (0, c)
def signedR (N : Nat) (m : List Int) (st : List (List Int)) (least : Int) (n : Nat) : Int × List (List Int) :=
  if (sigR N m (st.drop (st.length - n)) ((st.take (st.length - n)).drop (st.length - 2 * n)) 0).1 = 0 then (0, st.take (st.length - 2 * n) ++ [flagB (decide (least ≤ (sigR N m (st.drop (st.length - n)) ((st.take (st.length - n)).drop (st.length - 2 * n)) 0).2))])
  else ((sigR N m (st.drop (st.length - n)) ((st.take (st.length - n)).drop (st.length - 2 * n)) 0).1, st)
section
variable {N : Nat} (hN : 70000 ≤ N) {m : List Int} (hm : m.length = 32) (hb : Byt m)
include hN hm hb
theorem sig_loop (h a : Int) (st : List (List Int)) (br : List S_script_branch) (c least : Int) (n : Nat) (hn : n ≤ 100) (ks ss : List (List Int)) (hk : ks.length = n) (hs : ss.length = n) : ∀ (f j : Nat) (cnt : Int), n - j < f → j ≤ n → 0 ≤ cnt → cnt ≤ j →
    script_machine_signed_L2 N m h a st br c least (n : Int) ks ss f cnt (j : Int) = some (if (sigR N m (ks.drop j) (ss.drop j) cnt).1 = 0 then .brk (sigR N m (ks.drop j) (ss.drop j) cnt).2 else .ret ((sigR N m (ks.drop j) (ss.drop j) cnt).1, m, h, a, st, br, c))
  | 0, j, cnt, hf, _, _, _ => by omega
  | f + 1, j, cnt, hf, hj, h0, h1 => by
    rw [script_machine_signed_L2]
    by_cases hjn : j < n
    · rw [dT hjn, if_pos rfl, idx_lt ks (by omega), idx_lt ss (by omega)]
      simp only [Option.bind_some, ver_eq hN hm hb]
      rw [List.drop_eq_getElem_cons (show j < ks.length by omega), List.drop_eq_getElem_cons (show j < ss.length by omega), sigR]
      cases hv : verE N m ks[j] ss[j] != 0 with
      | true =>
        have hv' : verE N m ks[j] ss[j] ≠ 0 := by simpa using hv
        simp only [if_true, if_neg hv']
      | false =>
        simp only [Bool.false_eq_true, if_false, script_machine_signed_J3, i1 (show j ≤ 100000 by omega)]
        cases hl : decide (0 < ((ss[j].length : Nat) : Int)) with
        | true =>
          simp only [if_true]
          rw [w64 (a := cnt + 1) (by omega) (by omega)]
          exact sig_loop h a st br c least n hn ks ss hk hs f (j + 1) _ (by omega) (by omega) (by omega) (by omega)
        | false =>
          simp only [Bool.false_eq_true, if_false]
          exact sig_loop h a st br c least n hn ks ss hk hs f (j + 1) _ (by omega) (by omega) (by omega) (by omega)
    · rw [dF hjn, List.drop_eq_nil_of_le (by omega)]
      rfl
theorem signed_eq {h a : Int} {st : List (List Int)} (hs : WS st) {br : List S_script_branch} {c least : Int} {n : Nat} (h1 : 1 ≤ n) (hn : 2 * n ≤ st.length) : script_machine_signed N m h a st br c least (n : Int) = some ((signedR N m st least n).1, m, h, a, (signedR N m st least n).2, br, c) := by
  have hl := hs.len
  have e1 : subs st (IntKind.i64.wrap (((st.length : Nat) : Int) - (n : Int))) ((st.length : Nat) : Int) = some (st.drop (st.length - n)) := by
    rw [w64 (by omega) (by omega), show ((st.length : Nat) : Int) - (n : Int) = ((st.length - n : Nat) : Int) by omega]
    unfold subs
    rw [if_pos ⟨by omega, by omega, by omega⟩, Int.toNat_natCast, Int.toNat_natCast, List.take_of_length_le (Nat.le_refl _)]
  have e2 : subs st (IntKind.i64.wrap (((st.length : Nat) : Int) - (IntKind.i64.wrap (2 * (n : Int))))) (IntKind.i64.wrap (((st.length : Nat) : Int) - (n : Int))) = some ((st.take (st.length - n)).drop (st.length - 2 * n)) := by
    rw [w64 (a := 2 * (n : Int)) (by omega) (by omega), w64 (a := ((st.length : Nat) : Int) - (n : Int)) (by omega) (by omega), w64 (by omega) (by omega), show ((st.length : Nat) : Int) - (n : Int) = ((st.length - n : Nat) : Int) by omega, show ((st.length : Nat) : Int) - 2 * (n : Int) = ((st.length - 2 * n : Nat) : Int) by omega]
    unfold subs
    rw [if_pos ⟨by omega, by omega, by omega⟩, Int.toNat_natCast, Int.toNat_natCast]
  have lp := sig_loop hN hm hb h a st br c least n (by omega) (st.drop (st.length - n)) ((st.take (st.length - n)).drop (st.length - 2 * n)) (by simp; omega) (by simp; omega) N 0 0 (by omega) (by omega) (by omega) (by omega)
  rw [List.drop_zero, List.drop_zero, show ((0 : Nat) : Int) = 0 from rfl] at lp
  simp only [script_machine_signed, e1, e2, lp, Option.bind_some]
  unfold signedR
  by_cases hz : (sigR N m (st.drop (st.length - n)) ((st.take (st.length - n)).drop (st.length - 2 * n)) 0).1 = 0
  · rw [if_pos hz, if_pos hz]
    simp only [script_machine_signed_J1, flag_eq hN, Option.bind_some]
    rw [w64 (a := 2 * (n : Int)) (by omega) (by omega), show 2 * (n : Int) = ((2 * n : Nat) : Int) by omega, replace_eq hl hn]
    rfl
  · rw [if_neg hz, if_neg hz]
end
end Go.Proofs.YtokmcbfnfmpemaaDoor
set_option linter.unusedSimpArgs false
set_option linter.unusedVariables false
set_option linter.unusedSectionVars false
namespace Go.Proofs.YtokmcbfnfmpemaaDoor
open Go Go.Vm
def eqE (a b : List Int) : Bool := (strOf a).toList == (strOf b).toList
def carryR (N : Nat) (m : List Int) (h a : Int) (o : S_api_Op) (st : List (List Int)) : Int × List (List Int) :=
  if o.Code = 1 then pushR st o.Data
  else if o.Code = 2 then pushR st (itm st 1)
  else if o.Code = 3 then (0, st.take (st.length - 1))
  else if o.Code = 4 then (0, (st.set (st.length - 1) (itm st 2)).set (st.length - 2) (itm st 1))
  else if o.Code = 5 then (0, st.take (st.length - 2) ++ [flagB (eqE (itm st 1) (itm st 2))])
  else if o.Code = 6 then (0, st.take (st.length - 1) ++ [flagB (!truthE (itm st 1))])
  else if o.Code = 7 then (if truthE (itm st 1) then (0, st.take (st.length - 1)) else (84, st))
  else if o.Code = 8 then (0, st.take (st.length - 1) ++ [sha256 N (itm st 1)])
  else if o.Code = 9 then pushR st (itemE N ((itm st 1).length : Nat))
  else if o.Code = 10 then signedR N m st 1 1
  else if o.Code = 11 then signedR N m st o.M o.N.toNat
  else if o.Code = 12 then (locE N (itm st 1) h, st)
  else if o.Code = 13 then (locE N (itm st 1) a, st)
  else if o.Code = 17 then (84, st)
  else (0, st)
def needsR (o : S_api_Op) : Int :=
  if o.Code = 1 ∨ o.Code = 15 ∨ o.Code = 16 ∨ o.Code = 17 then 0 else if o.Code = 4 ∨ o.Code = 5 ∨ o.Code = 10 then 2 else if o.Code = 11 then 2 * o.N else 1
def priceR (o : S_api_Op) : Int := if o.Code = 8 then 6 else if o.Code = 10 then 21 else if o.Code = 11 then 1 + 20 * o.N else 1
theorem beqF {x y : Int} (h : x ≠ y) : (x == y) = false := by simpa using h
theorem price_eq (N : Nat) {o : S_api_Op} (ho : VOp o) : script_price N o.Code o.Data o.M o.N = some (priceR o) := by
  unfold script_price priceR
  by_cases h8 : o.Code = 8
  · rw [h8]; rfl
  · rw [beqF h8, if_neg h8]
    by_cases h10 : o.Code = 10
    · rw [h10]; rfl
    · rw [beqF h10, if_neg h10]
      by_cases h11 : o.Code = 11
      · have := ho.multi h11
        rw [if_pos h11, h11, w64 (a := 20 * o.N) (by omega) (by omega), w64 (by omega) (by omega)]; rfl
      · rw [beqF h11, if_neg h11]; rfl
theorem price_pos {o : S_api_Op} (ho : VOp o) : 1 ≤ priceR o ∧ priceR o ≤ 301 := by
  unfold priceR
  by_cases h11 : o.Code = 11
  · have := ho.multi h11
    rw [if_neg (by omega), if_neg (by omega), if_pos h11]; omega
  · rw [if_neg h11]
    split
    · omega
    · split <;> omega
theorem needs_eq (N : Nat) {o : S_api_Op} (ho : VOp o) : script_needs N o.Code o.Data o.M o.N = some (needsR o) := by
  unfold script_needs needsR script_needs_J1 script_needs_J2
  by_cases h11 : o.Code = 11
  · have := ho.multi h11
    simp only [h11]
    rw [w64 (a := 2 * o.N) (by omega) (by omega)]
    simp
  · by_cases h1 : o.Code = 1
    · simp [h1]
    · by_cases h15 : o.Code = 15
      · simp [h15]
      · by_cases h16 : o.Code = 16
        · simp [h16]
        · by_cases h17 : o.Code = 17
          · simp [h17]
          · by_cases h4 : o.Code = 4
            · simp [h4]
            · by_cases h5 : o.Code = 5
              · simp [h5]
              · by_cases h10 : o.Code = 10
                · simp [h10]
                · simp [h1, h15, h16, h17, h4, h5, h10, h11]
section
variable {N : Nat} (hN : 70000 ≤ N) {m : List Int} (hm : m.length = 32) (hb : Byt m)
include hN hm hb
theorem pushR_ok {st : List (List Int)} (hs : WS st) {x : List Int} (hx : Byt x ∧ x.length ≤ 520) : WS (pushR st x).2 := by
  unfold pushR
  by_cases h : 64 ≤ st.length
  · rw [if_pos h]; exact hs
  · rw [if_neg h]; exact hs.push (by omega) hx
theorem signedR_ok {st : List (List Int)} (hs : WS st) (least : Int) {n : Nat} (h1 : 1 ≤ n) (hn : 2 * n ≤ st.length) : WS (signedR N m st least n).2 := by
  unfold signedR
  split
  · have := hs.len
    exact (hs.take _).push (by simp; omega) (flagB_ok _)
  · exact hs
theorem carry_ok {h a : Int} {o : S_api_Op} (ho : VOp o) {st : List (List Int)} (hs : WS st) (hn : needsR o ≤ (st.length : Int)) : WS (carryR N m h a o st).2 := by
  have hl := hs.len
  have rep : ∀ (k : Nat) (x : List Int), 1 ≤ k → k ≤ st.length → (Byt x ∧ x.length ≤ 520) → WS (st.take (st.length - k) ++ [x]) := fun k x h1 hk hx => (hs.take _).push (by simp; omega) hx
  unfold carryR
  unfold needsR at hn
  by_cases h1 : o.Code = 1
  · rw [if_pos h1]
    exact pushR_ok hN hm hb hs ⟨ho.data.1, by have := ho.data.2; omega⟩
  rw [if_neg h1]
  by_cases h2 : o.Code = 2
  · simp [h2] at hn
    have := itm_ok hs (k := 1) (by omega) (by omega)
    rw [if_pos h2]
    exact pushR_ok hN hm hb hs ⟨this.1, this.2.1⟩
  rw [if_neg h2]
  by_cases h3 : o.Code = 3
  · rw [if_pos h3]; exact hs.take _
  rw [if_neg h3]
  by_cases h4 : o.Code = 4
  · simp [h4] at hn
    have q1 := itm_ok hs (k := 1) (by omega) (by omega)
    have q2 := itm_ok hs (k := 2) (by omega) (by omega)
    rw [if_pos h4]
    exact (hs.set _ ⟨q2.1, q2.2.1⟩).set _ ⟨q1.1, q1.2.1⟩
  rw [if_neg h4]
  by_cases h5 : o.Code = 5
  · simp [h5] at hn
    rw [if_pos h5]
    exact rep 2 _ (by omega) (by omega) (flagB_ok _)
  rw [if_neg h5]
  by_cases h6 : o.Code = 6
  · simp [h6] at hn
    rw [if_pos h6]
    exact rep 1 _ (by omega) (by omega) (flagB_ok _)
  rw [if_neg h6]
  by_cases h7 : o.Code = 7
  · rw [if_pos h7]
    cases truthE (itm st 1)
    · exact hs
    · exact hs.take _
  rw [if_neg h7]
  by_cases h8 : o.Code = 8
  · simp [h8] at hn
    rw [if_pos h8]
    exact rep 1 _ (by omega) (by omega) ⟨sha256_byt _ _, by rw [sha256_len]; omega⟩
  rw [if_neg h8]
  by_cases h9 : o.Code = 9
  · simp [h9] at hn
    have := itm_ok hs (k := 1) (by omega) (by omega)
    rw [if_pos h9]
    exact pushR_ok hN hm hb hs (item_ok hN (n := (itm st 1).length) (by omega)).2
  rw [if_neg h9]
  by_cases h10 : o.Code = 10
  · simp [h10] at hn
    rw [if_pos h10]
    exact signedR_ok hN hm hb hs _ (by omega) (by omega)
  rw [if_neg h10]
  by_cases h11 : o.Code = 11
  · have := ho.multi h11
    simp [h11] at hn
    rw [if_pos h11]
    exact signedR_ok hN hm hb hs _ (by omega) (by omega)
  rw [if_neg h11]
  by_cases h12 : o.Code = 12
  · rw [if_pos h12]; exact hs
  rw [if_neg h12]
  by_cases h13 : o.Code = 13
  · rw [if_pos h13]; exact hs
  rw [if_neg h13]
  by_cases h17 : o.Code = 17
  · rw [if_pos h17]; exact hs
  rw [if_neg h17]; exact hs
theorem carry_eq {h a : Int} {o : S_api_Op} (ho : VOp o) {st : List (List Int)} (hs : WS st) (hn : needsR o ≤ (st.length : Int)) (br : List S_script_branch) (c : Int) :
    script_machine_carry N m h a st br c o.Code o.Data o.M o.N = some ((carryR N m h a o st).1, m, h, a, (carryR N m h a o st).2, br, c) := by
  have hl := hs.len
  have top : 1 ≤ st.length → script_machine_top N m h a st br c = some (itm st 1) := fun h1 => by
    unfold script_machine_top
    rw [show ((st.length : Nat) : Int) - 1 = ((st.length : Nat) : Int) - ((1 : Nat) : Int) from rfl, (itm_ok hs (k := 1) (by omega) h1).2.2]; rfl
  have len1 : 1 ≤ st.length → (itm st 1).length ≤ 520 ∧ Byt (itm st 1) := fun h1 => ⟨(itm_ok hs (k := 1) (by omega) h1).2.1, (itm_ok hs (k := 1) (by omega) h1).1⟩
  have rep1 : ∀ x, 1 ≤ st.length → script_machine_replace N m h a st br c 1 x = some (m, h, a, st.take (st.length - 1) ++ [x], br, c) := fun x h1 => replace_eq (k := 1) hl h1 x
  have rep2 : ∀ x, 2 ≤ st.length → script_machine_replace N m h a st br c 2 x = some (m, h, a, st.take (st.length - 2) ++ [x], br, c) := fun x h1 => replace_eq (k := 2) hl h1 x
  have drp : 1 ≤ st.length → script_machine_drop N m h a st br c 1 = some (m, h, a, st.take (st.length - 1), br, c) := fun h1 => drop_eq (k := 1) hl h1
  have i2 : 2 ≤ st.length → idx st (IntKind.i64.wrap (((st.length : Nat) : Int) - 2)) = some (itm st 2) := fun h2 => (itm_ok hs (k := 2) (by omega) h2).2.2
  have i1' : 1 ≤ st.length → idx st (IntKind.i64.wrap (((st.length : Nat) : Int) - 1)) = some (itm st 1) := fun h2 => (itm_ok hs (k := 1) (by omega) h2).2.2
  unfold carryR script_machine_carry
  unfold needsR at hn
  by_cases h1 : o.Code = 1
  · rw [if_pos h1, h1, push_eq]; rfl
  rw [if_neg h1, beqF h1]
  by_cases h2 : o.Code = 2
  · simp [h2] at hn
    rw [if_pos h2, h2, top (by omega)]
    simp only [Option.bind_some, push_eq]; rfl
  rw [if_neg h2, beqF h2]
  by_cases h3 : o.Code = 3
  · simp [h3] at hn
    rw [if_pos h3, h3, drp (by omega)]; rfl
  rw [if_neg h3, beqF h3]
  by_cases h4 : o.Code = 4
  · simp [h4] at hn
    rw [if_pos h4, h4, i2 (by omega), i1' (by omega)]
    have e1 : IntKind.i64.wrap (((st.length : Nat) : Int) - 1) = ((st.length - 1 : Nat) : Int) := by rw [w64 (by omega) (by omega)]; omega
    have e2 : IntKind.i64.wrap (((st.length : Nat) : Int) - 2) = ((st.length - 2 : Nat) : Int) := by rw [w64 (by omega) (by omega)]; omega
    simp only [e1, e2, Int.toNat_natCast, Option.bind_some]
    rw [idx_lt _ (show st.length - 2 < (st.set (st.length - 1) (itm st 2)).length by rw [List.length_set]; omega)]
    rfl
  rw [if_neg h4, beqF h4]
  by_cases h5 : o.Code = 5
  · simp [h5] at hn
    rw [if_pos h5, h5, top (by omega), i2 (by omega)]
    simp only [Option.bind_some, bytes_Equal, flag_eq hN, rep2 _ (show 2 ≤ st.length by omega)]
    rfl
  rw [if_neg h5, beqF h5]
  by_cases h6 : o.Code = 6
  · simp [h6] at hn
    rw [if_pos h6, h6, top (by omega)]
    simp only [Option.bind_some, truth_eq hN (show (itm st 1).length ≤ 60000 by have := (len1 (by omega)).1; omega), flag_eq hN, rep1 _ (show 1 ≤ st.length by omega)]
    rfl
  rw [if_neg h6, beqF h6]
  by_cases h7 : o.Code = 7
  · simp [h7] at hn
    rw [if_pos h7, h7, top (by omega)]
    simp only [Option.bind_some, truth_eq hN (show (itm st 1).length ≤ 60000 by have := (len1 (by omega)).1; omega), drp (show 1 ≤ st.length by omega)]
    cases truthE (itm st 1) <;> rfl
  rw [if_neg h7, beqF h7]
  by_cases h8 : o.Code = 8
  · simp [h8] at hn
    rw [if_pos h8, h8, top (by omega)]
    simp only [Option.bind_some, Sum_eq N hN _ (len1 (by omega)).2 (show (itm st 1).length ≤ 1000000 by have := (len1 (by omega)).1; omega), arr_ok (sha256_len N (itm st 1)), rep1 _ (show 1 ≤ st.length by omega)]
    rfl
  rw [if_neg h8, beqF h8]
  by_cases h9 : o.Code = 9
  · simp [h9] at hn
    have := (len1 (by omega)).1
    rw [if_pos h9, h9, top (by omega)]
    simp only [Option.bind_some, wu32n _ (show (itm st 1).length < 4294967296 by omega), (item_ok hN (show (itm st 1).length < 4294967296 by omega)).1, push_eq]
    rfl
  rw [if_neg h9, beqF h9]
  by_cases h10 : o.Code = 10
  · simp [h10] at hn
    have := signed_eq hN hm hb (h := h) (a := a) hs (br := br) (c := c) (least := 1) (n := 1) (by omega) (by omega)
    rw [show ((1 : Nat) : Int) = 1 from rfl] at this
    rw [if_pos h10, h10, this]; rfl
  rw [if_neg h10, beqF h10]
  by_cases h11 : o.Code = 11
  · have hM := ho.multi h11
    simp [h11] at hn
    have := signed_eq hN hm hb (h := h) (a := a) hs (br := br) (c := c) (least := o.M) (n := o.N.toNat) (by omega) (by omega)
    rw [show ((o.N.toNat : Nat) : Int) = o.N by omega] at this
    rw [if_pos h11, h11, this]; rfl
  rw [if_neg h11, beqF h11]
  by_cases h12 : o.Code = 12
  · simp [h12] at hn
    rw [if_pos h12, h12, top (by omega)]
    simp only [Option.bind_some, loc_eq hN]; rfl
  rw [if_neg h12, beqF h12]
  by_cases h13 : o.Code = 13
  · simp [h13] at hn
    rw [if_pos h13, h13, top (by omega)]
    simp only [Option.bind_some, loc_eq hN]; rfl
  rw [if_neg h13, beqF h13]
  by_cases h17 : o.Code = 17
  · rw [if_pos h17, h17]; rfl
  rw [if_neg h17, beqF h17]; rfl
end
end Go.Proofs.YtokmcbfnfmpemaaDoor
set_option linter.unusedSimpArgs false
set_option linter.unusedVariables false
set_option linter.unusedSectionVars false
namespace Go.Proofs.YtokmcbfnfmpemaaDoor
open Go Go.Vm
structure St where
  st : List (List Int)
  br : List S_script_branch
  c : Int
def topB (br : List S_script_branch) : S_script_branch := br.getD (br.length - 1) ⟨true, true⟩
def countR (o : S_api_Op) (br : List S_script_branch) : Bool := if o.Code = 15 ∨ o.Code = 16 then (topB br).outer else (topB br).outer && (topB br).taken
def bodyR (N : Nat) (m : List Int) (h a : Int) (o : S_api_Op) (k : Bool) (s : St) : Int × St :=
  if o.Code = 14 then (0, ⟨if k then s.st.take (s.st.length - 1) else s.st, s.br ++ [⟨k, k && truthE (itm s.st 1)⟩], s.c⟩)
  else if o.Code = 15 then (0, ⟨s.st, s.br.set (s.br.length - 1) ⟨(topB s.br).outer, !(topB s.br).taken⟩, s.c⟩)
  else if o.Code = 16 then (0, ⟨s.st, s.br.take (s.br.length - 1), s.c⟩)
  else if k then ((carryR N m h a o s.st).1, ⟨(carryR N m h a o s.st).2, s.br, s.c⟩) else (0, s)
def stepR (N : Nat) (m : List Int) (h a : Int) (o : S_api_Op) (s : St) : Int × St :=
  if countR o s.br then
    (if 500 < s.c + priceR o then (83, s) else if (s.st.length : Int) < needsR o then (81, s) else bodyR N m h a o true ⟨s.st, s.br, s.c + priceR o⟩)
  else bodyR N m h a o false s
def runR (N : Nat) (m : List Int) (h a : Int) : List S_api_Op → St → Int × St
  | [], s => (0, s)
  | o :: r, s => if (stepR N m h a o s).1 = 0 then runR N m h a r (stepR N m h a o s).2 else stepR N m h a o s
def nestR : List S_api_Op → List Bool → Option (List Bool)
  | [], l => some l
  | o :: r, l =>
    if o.Code = 14 then nestR r (l ++ [false])
    else if o.Code = 15 then (if l = [] then none else if l.getD (l.length - 1) true = true then none else nestR r (l.set (l.length - 1) true))
    else if o.Code = 16 then (if l = [] then none else nestR r (l.take (l.length - 1)))
    else nestR r l
theorem nestR_app : ∀ (x y : List S_api_Op) (l : List Bool), nestR (x ++ y) l = (nestR x l).bind (nestR y)
  | [], y, l => rfl
  | o :: r, y, l => by
    simp only [List.cons_append, nestR]
    split
    · exact nestR_app r y _
    split
    · split
      · rfl
      · split
        · rfl
        · exact nestR_app r y _
    split
    · split
      · rfl
      · exact nestR_app r y _
    · exact nestR_app r y _
theorem last1 {n : Nat} (h1 : 1 ≤ n) (h2 : n ≤ 100000) : IntKind.i64.wrap ((n : Int) - 1) = ((n - 1 : Nat) : Int) := by rw [w64 (by omega) (by omega)]; omega
theorem nil_len {α : Type} {l : List α} : l = [] ↔ l.length = 0 := by cases l <;> simp
def nestQ : Option (List Bool) → LR (List Bool) Bool
  | none => .ret false
  | some l => .brk l
theorem nest_loop (N : Nat) (l : List S_api_Op) (hl : l.length ≤ 1000) : ∀ (f j : Nat) (op : List Bool), l.length - j < f → j ≤ l.length → op.length ≤ j → script_nested_L2 N l f (j : Int) op = some (nestQ (nestR (l.drop j) op))
  | 0, j, op, hf, _, _ => by omega
  | f + 1, j, op, hf, hj, ho => by
    rw [script_nested_L2]
    by_cases h : j < l.length
    · rw [dT h, if_pos rfl, idx_lt l h, List.drop_eq_getElem_cons h]
      simp only [Option.bind_some, nestR, script_nested_J3, script_nested_J4, i1 (show j ≤ 100000 by omega)]
      have ih := fun op' (ho' : op'.length ≤ j + 1) => nest_loop N l hl f (j + 1) op' (by omega) (by omega) ho'
      by_cases h14 : l[j].Code = 14
      · have := lim_big2
        rw [if_pos h14, h14, app_ok (by simp; omega)]
        exact ih _ (by simp; omega)
      rw [if_neg h14, beqF h14]
      by_cases h15 : l[j].Code = 15
      · rw [if_pos h15, h15]
        by_cases h0 : op = []
        · rw [if_pos h0, h0]; rfl
        · have h0' : 1 ≤ op.length := by have := mt nil_len.2 h0; omega
          rw [if_neg h0, last1 h0' (by omega), show decide ((((op.length - 1 : Nat)) : Int) < 0) = false from decide_eq_false (by omega), idx_lt op (show op.length - 1 < op.length by omega), show op.getD (op.length - 1) true = op[op.length - 1] by simp [show op.length - 1 < op.length by omega]]
          cases hh : op[op.length - 1]
          · simp only [Bool.false_eq_true, if_false, Option.bind_some, Int.toNat_natCast, show ((15 : Int) == 14) = false from rfl, show ((15 : Int) == 15) = true from rfl, if_true]
            exact ih _ (by simp; omega)
          · rfl
      rw [if_neg h15, beqF h15]
      by_cases h16 : l[j].Code = 16
      · rw [if_pos h16, h16]
        by_cases h0 : op = []
        · rw [if_pos h0, h0]; rfl
        · have h0' : 1 ≤ op.length := by have := mt nil_len.2 h0; omega
          have e : sub op 0 ((op.length - 1 : Nat) : Int) = some (op.take (op.length - 1)) := by
            unfold sub; rw [if_pos ⟨by omega, by omega, by omega⟩]; simp
          rw [if_neg h0, last1 h0' (by omega), show decide ((((op.length - 1 : Nat)) : Int) < 0) = false from decide_eq_false (by omega), e]
          exact ih _ (by simp; omega)
      rw [if_neg h16, beqF h16]
      exact ih _ (by omega)
    · rw [dF h, List.drop_eq_nil_of_le (by omega)]; rfl
def nestB (l : List S_api_Op) : Bool := match nestR l [] with | none => false | some q => (q.length : Int) == 0
theorem nested_eq {N : Nat} (hN : 70000 ≤ N) {l : List S_api_Op} (hl : l.length ≤ 1000) : script_nested N l = some (nestB l) := by
  have := nest_loop N l hl N 0 [] (by omega) (by omega) (by simp)
  rw [List.drop_zero, show ((0 : Nat) : Int) = 0 from rfl] at this
  unfold script_nested nestB
  rw [this]
  cases nestR l [] <;> rfl
section
variable {N : Nat} (hN : 70000 ≤ N) {m : List Int} (hm : m.length = 32) (hb : Byt m)
include hN hm hb
theorem step_ok {h a : Int} {o : S_api_Op} (ho : VOp o) {s : St} (hs : WS s.st) (hbr : s.br.length ≤ 1000) (hc : 0 ≤ s.c ∧ s.c ≤ 500) (h15 : o.Code = 15 ∨ o.Code = 16 → s.br ≠ []) :
    ∃ s', script_machine_step N m h a s.st s.br s.c o.Code o.Data o.M o.N = some ((stepR N m h a o s).1, m, h, a, s'.st, s'.br, s'.c) ∧ ((stepR N m h a o s).1 = 0 → s' = (stepR N m h a o s).2 ∧ WS s'.st ∧ s.c ≤ s'.c ∧ s'.c ≤ 500 ∧ ((o.Code = 14 → s'.br.length = s.br.length + 1) ∧ (o.Code = 16 → s'.br.length = s.br.length - 1) ∧ (o.Code ≠ 14 → o.Code ≠ 16 → s'.br.length = s.br.length))) := by
  have hp := price_pos ho
  have hbody : ∀ (k : Bool) (c : Int), s.c ≤ c → c ≤ 500 → (k = true → needsR o ≤ (s.st.length : Int)) → ∃ s', script_machine_step_J2 N m h a s.st s.br o.Code o.Data o.M o.N k c = some ((bodyR N m h a o k ⟨s.st, s.br, c⟩).1, m, h, a, s'.st, s'.br, s'.c) ∧ s' = (bodyR N m h a o k ⟨s.st, s.br, c⟩).2 ∧ WS s'.st ∧ s.c ≤ s'.c ∧ s'.c ≤ 500 ∧ ((o.Code = 14 → s'.br.length = s.br.length + 1) ∧ (o.Code = 16 → s'.br.length = s.br.length - 1) ∧ (o.Code ≠ 14 → o.Code ≠ 16 → s'.br.length = s.br.length)) := by
    intro k c hc1 hc2 hk
    refine ⟨_, ?_, rfl, ?_⟩
    all_goals unfold bodyR
    · unfold script_machine_step_J2
      by_cases h14 : o.Code = 14
      · rw [if_pos h14, h14]
        have := lim_big2
        cases k with
        | false =>
          simp only [Bool.false_eq_true, if_false, show ((14 : Int) == 14) = true from rfl, if_true]
          rw [app_ok (by simp; omega)]; rfl
        | true =>
          have hn := hk rfl
          unfold needsR at hn
          simp [h14] at hn
          have q := itm_ok hs (k := 1) (by omega) (by omega)
          have top : script_machine_top N m h a s.st s.br c = some (itm s.st 1) := by
            unfold script_machine_top
            rw [show ((s.st.length : Nat) : Int) - 1 = ((s.st.length : Nat) : Int) - ((1 : Nat) : Int) from rfl, q.2.2]; rfl
          simp only [show ((14 : Int) == 14) = true from rfl, if_true, top, Option.bind_some, truth_eq hN (show (itm s.st 1).length ≤ 60000 by omega)]
          rw [app_ok (by simp; omega)]
          simp only [Option.bind_some, script_machine_step_J4, if_true]
          rw [show script_machine_drop N m h a s.st (s.br ++ [⟨true, truthE (itm s.st 1)⟩]) c 1 = _ from drop_eq (k := 1) hs.len (by omega)]
          rfl
      rw [if_neg h14, beqF h14]
      by_cases h15' : o.Code = 15
      · have h0 := h15 (.inl h15')
        have h0' : 1 ≤ s.br.length := by have := mt nil_len.2 h0; omega
        rw [if_pos h15', h15', last1 h0' (by omega), idx_lt s.br (show s.br.length - 1 < s.br.length by omega)]
        simp only [show topB s.br = s.br[s.br.length - 1] by simp [topB, show s.br.length - 1 < s.br.length by omega], Int.toNat_natCast]
        rfl
      rw [if_neg h15', beqF h15']
      by_cases h16 : o.Code = 16
      · have h0 := h15 (.inr h16)
        have h0' : 1 ≤ s.br.length := by have := mt nil_len.2 h0; omega
        have e : sub s.br 0 ((s.br.length - 1 : Nat) : Int) = some (s.br.take (s.br.length - 1)) := by
          unfold sub; rw [if_pos ⟨by omega, by omega, by omega⟩]; simp
        rw [if_pos h16, h16, last1 h0' (by omega), e]; rfl
      rw [if_neg h16, beqF h16]
      cases k with
      | true => simp only [Bool.false_eq_true, if_false, if_true, carry_eq hN hm hb ho hs (hk rfl), Option.bind_some]
      | false => rfl
    · by_cases h14 : o.Code = 14
      · simp only [if_pos h14]
        refine ⟨?_, hc1, hc2, fun _ => by simp, fun h => by omega, fun h => absurd h14 h⟩
        cases k
        · exact hs
        · exact hs.take _
      simp only [if_neg h14]
      by_cases h15' : o.Code = 15
      · simp only [if_pos h15']
        exact ⟨hs, hc1, hc2, fun h => by omega, fun h => by omega, fun _ _ => by simp⟩
      simp only [if_neg h15']
      by_cases h16 : o.Code = 16
      · simp only [if_pos h16]
        exact ⟨hs, hc1, hc2, fun h => by omega, fun h => by simp, fun _ h => by omega⟩
      simp only [if_neg h16]
      cases k with
      | true => exact ⟨carry_ok hN hm hb ho hs (hk rfl), hc1, hc2, fun h => by omega, fun h => by omega, fun _ _ => rfl⟩
      | false => exact ⟨hs, hc1, hc2, fun h => by omega, fun h => by omega, fun _ _ => rfl⟩
  have hJ : script_machine_step N m h a s.st s.br s.c o.Code o.Data o.M o.N = script_machine_step_J1 N m h a s.st s.br s.c o.Code o.Data o.M o.N (countR o s.br) := by
    unfold script_machine_step script_machine_active countR
    by_cases h0 : s.br = []
    · have : ¬ (o.Code = 15 ∨ o.Code = 16) := fun h => h15 h h0
      rw [h0, if_neg this]
      simp only [script_machine_step_J5, beqF (fun h => this (.inl h)), beqF (fun h => this (.inr h))]
      rfl
    · have h0' : 1 ≤ s.br.length := by have := mt nil_len.2 h0; omega
      rw [show (((s.br.length : Nat) : Int) == 0) = false from beqF (by omega), last1 h0' (by omega), idx_lt s.br (show s.br.length - 1 < s.br.length by omega), show topB s.br = s.br[s.br.length - 1] by simp [topB, show s.br.length - 1 < s.br.length by omega]]
      simp only [script_machine_step_J5, last1 h0' (show s.br.length ≤ 100000 by omega), idx_lt s.br (show s.br.length - 1 < s.br.length by omega), script_machine_active_J1, Option.bind_some, Bool.false_eq_true, if_false]
      by_cases h15' : o.Code = 15
      · rw [if_pos (show o.Code = 15 ∨ o.Code = 16 from .inl h15'), h15']
        cases s.br[s.br.length - 1].outer <;> rfl
      · by_cases h16 : o.Code = 16
        · rw [if_pos (show o.Code = 15 ∨ o.Code = 16 from .inr h16), h16]
          cases s.br[s.br.length - 1].outer <;> rfl
        · rw [if_neg (show ¬ (o.Code = 15 ∨ o.Code = 16) by omega), beqF h15', beqF h16]
          cases s.br[s.br.length - 1].outer <;> rfl
  rw [hJ]
  unfold script_machine_step_J1 stepR
  cases countR o s.br with
  | false =>
    obtain ⟨s', h1, h2⟩ := hbody false s.c (Int.le_refl _) hc.2 (fun h => by cases h)
    exact ⟨s', h1, fun _ => h2⟩
  | true =>
    simp only [if_true, price_eq N ho, needs_eq N ho, Option.bind_some]
    rw [w64 (a := s.c + priceR o) (by omega) (by omega)]
    by_cases h5 : 500 < s.c + priceR o
    · rw [decide_eq_true h5, if_pos h5]
      exact ⟨⟨s.st, s.br, s.c + priceR o⟩, rfl, fun h => by cases h⟩
    · rw [decide_eq_false h5, if_neg h5]
      simp only [Bool.false_eq_true, if_false]
      by_cases h6 : (s.st.length : Int) < needsR o
      · rw [decide_eq_true h6, if_pos h6]
        exact ⟨⟨s.st, s.br, s.c + priceR o⟩, rfl, fun h => by cases h⟩
      · rw [decide_eq_false h6, if_neg h6]
        obtain ⟨s', h1, h2⟩ := hbody true (s.c + priceR o) (by omega) (by omega) (fun _ => by omega)
        exact ⟨s', h1, fun _ => h2⟩
end
end Go.Proofs.YtokmcbfnfmpemaaDoor
set_option linter.unusedSimpArgs false
set_option linter.unusedVariables false
set_option linter.unusedSectionVars false
namespace Go.Proofs.YtokmcbfnfmpemaaDoor
open Go Go.Vm
theorem nest_step {o : S_api_Op} {r : List S_api_Op} {l q : List Bool} (h : nestR (o :: r) l = some q) : (o.Code = 15 ∨ o.Code = 16 → l ≠ []) ∧ ∃ l', nestR r l' = some q ∧ (o.Code = 14 → l'.length = l.length + 1) ∧ (o.Code = 16 → l'.length = l.length - 1) ∧ (o.Code ≠ 14 → o.Code ≠ 16 → l'.length = l.length) := by
  simp only [nestR] at h
  by_cases h14 : o.Code = 14
  · rw [if_pos h14] at h
    exact ⟨fun h => by omega, _, h, fun _ => by simp, fun h => by omega, fun h => absurd h14 h⟩
  rw [if_neg h14] at h
  by_cases h15 : o.Code = 15
  · rw [if_pos h15] at h
    by_cases h0 : l = []
    · rw [if_pos h0] at h; cases h
    · rw [if_neg h0] at h
      by_cases h1 : l.getD (l.length - 1) true = true
      · rw [if_pos h1] at h; cases h
      · rw [if_neg h1] at h
        exact ⟨fun _ => h0, _, h, fun h => by omega, fun h => by omega, fun _ _ => by simp⟩
  rw [if_neg h15] at h
  by_cases h16 : o.Code = 16
  · rw [if_pos h16] at h
    by_cases h0 : l = []
    · rw [if_pos h0] at h; cases h
    · rw [if_neg h0] at h
      exact ⟨fun _ => h0, _, h, fun h => by omega, fun h => by simp, fun _ h => by omega⟩
  rw [if_neg h16] at h
  exact ⟨fun h => by omega, _, h, fun h => by omega, fun h => by omega, fun _ _ => rfl⟩
structure OkS (s : St) : Prop where
  ws : WS s.st
  c : 0 ≤ s.c ∧ s.c ≤ 500
def runQ (m : List Int) (h a : Int) (x : Int × St) : LR ((List Int) × Int × Int × Int × (List (List Int)) × (List S_script_branch)) ((List (List Int)) × Int × Int) :=
  if x.1 = 0 then .brk (m, h, a, x.2.c, x.2.st, x.2.br) else .ret ([], 0, x.1)
section
variable {N : Nat} (hN : 70000 ≤ N) {m : List Int} (hm : m.length = 32) (hb : Byt m)
include hN hm hb
theorem step_inv {h a : Int} {o : S_api_Op} {r : List S_api_Op} (ho : VOp o) {s : St} (hs : OkS s) {l q : List Bool} (hl : s.br.length = l.length) (hn : nestR (o :: r) l = some q) (hbr : s.br.length ≤ 1000) :
    ∃ s', script_machine_step N m h a s.st s.br s.c o.Code o.Data o.M o.N = some ((stepR N m h a o s).1, m, h, a, s'.st, s'.br, s'.c) ∧ ((stepR N m h a o s).1 = 0 → s' = (stepR N m h a o s).2 ∧ OkS s' ∧ s.c ≤ s'.c ∧ s'.br.length ≤ s.br.length + 1 ∧ ∃ l', s'.br.length = l'.length ∧ nestR r l' = some q) := by
  obtain ⟨n1, l', n2, n3, n4, n5⟩ := nest_step hn
  obtain ⟨s', h1, h2⟩ := step_ok hN hm hb (h := h) (a := a) ho hs.ws hbr hs.c (fun h e => n1 h (nil_len.2 (by rw [← hl, e]; rfl)))
  refine ⟨s', h1, fun he => ?_⟩
  obtain ⟨e, g1, g2, g3, g4, g5, g6⟩ := h2 he
  have hc := hs.c
  refine ⟨e, ⟨g1, by omega, g3⟩, g2, ?_, l', ?_, n2⟩
  · by_cases h14 : o.Code = 14
    · rw [g4 h14]; omega
    · by_cases h16 : o.Code = 16
      · rw [g5 h16]; omega
      · rw [g6 h14 h16]; omega
  · by_cases h14 : o.Code = 14
    · rw [g4 h14, n3 h14, hl]
    · by_cases h16 : o.Code = 16
      · rw [g5 h16, n4 h16, hl]
      · rw [g6 h14 h16, n5 h14 h16, hl]
theorem run_inv {h a : Int} : ∀ (r : List S_api_Op) (s : St) (l q : List Bool), (∀ o ∈ r, VOp o) → OkS s → s.br.length = l.length → nestR r l = some q → s.br.length + r.length ≤ 1000 → (runR N m h a r s).1 = 0 → OkS (runR N m h a r s).2 ∧ s.c ≤ (runR N m h a r s).2.c ∧ (runR N m h a r s).2.br.length = q.length
  | [], s, l, q, _, hs, hl, hn, _, _ => by
    injection hn with hn
    exact ⟨hs, Int.le_refl _, hn ▸ hl⟩
  | o :: r, s, l, q, hv, hs, hl, hn, hlen, he => by
    simp only [List.length_cons] at hlen
    obtain ⟨s', h1, h2⟩ := step_inv hN hm hb (h := h) (a := a) (hv o (by simp)) hs hl hn (by omega)
    simp only [runR] at he ⊢
    by_cases h0 : (stepR N m h a o s).1 = 0
    · simp only [if_pos h0] at he ⊢
      obtain ⟨e, g1, g2, g3, l', g4, g5⟩ := h2 h0
      rw [← e] at he ⊢
      obtain ⟨k1, k2, k3⟩ := run_inv r s' l' q (fun o ho => hv o (by simp [ho])) g1 g4 g5 (by omega) he
      exact ⟨k1, by omega, k3⟩
    · rw [if_neg h0] at he
      exact absurd he h0
theorem run_loop {h a : Int} (ops : List S_api_Op) (e : Int) (hv : ∀ o ∈ ops, VOp o) (ho : ops.length ≤ 600) : ∀ (f j : Nat) (s : St) (l q : List Bool), ops.length - j < f → j ≤ ops.length → OkS s → s.br.length = l.length → nestR (ops.drop j) l = some q → s.br.length ≤ j →
    script_Run_L3 N (ops, e) f (j : Int) m h a s.c s.st s.br = some (runQ m h a (runR N m h a (ops.drop j) s))
  | 0, j, s, l, q, hf, _, _, _, _, _ => by omega
  | f + 1, j, s, l, q, hf, hj, hs, hl, hn, hbr => by
    rw [script_Run_L3]
    by_cases hlt : j < ops.length
    · rw [List.drop_eq_getElem_cons hlt] at hn ⊢
      obtain ⟨s', h1, h2⟩ := step_inv hN hm hb (h := h) (a := a) (hv _ (List.getElem_mem hlt)) hs hl hn (by omega)
      rw [dT hlt, if_pos rfl, idx_lt ops hlt]
      simp only [Option.bind_some, h1, runR]
      by_cases h0 : (stepR N m h a ops[j] s).1 = 0
      · obtain ⟨e', g1, g2, g3, l', g4, g5⟩ := h2 h0
        rw [h0, if_pos rfl, ← e', show ((0 : Int) != 0) = false from rfl, i1 (by omega)]
        exact run_loop ops e hv ho f (j + 1) s' l' q (by omega) (by omega) g1 g4 g5 (by omega)
      · rw [if_neg h0, show ((stepR N m h a ops[j] s).1 != 0) = true by simpa using h0]
        simp only [if_true, runQ, if_neg h0]
    · rw [dF hlt, List.drop_eq_nil_of_le (by omega)]; rfl
end
section
variable {N : Nat} (hN : 70000 ≤ N)
include hN
theorem copied_eq {st : List (List Int)} (hl : st.length ≤ 1000) (h : ∀ x ∈ st, x.length ≤ 520) : script_copied N st = some st := by
  have lp : ∀ (f j : Nat) (acc : List (List Int)), st.length - j < f → j ≤ st.length → acc.length ≤ j → script_copied_L2 N st f (j : Int) acc = some (acc ++ st.drop j) := by
    intro f
    induction f with
    | zero => intro j acc hf; omega
    | succ f ih =>
      intro j acc hf hj ha
      rw [script_copied_L2]
      by_cases hlt : j < st.length
      · have hx := h _ (List.getElem_mem hlt)
        rw [dT hlt, if_pos rfl, idx_lt st hlt]
        simp only [Option.bind_some]
        rw [crow hN [st[j]] (by simp) (by simp; omega)]
        simp only [Option.bind_some, List.flatten_cons, List.flatten_nil, List.append_nil]
        rw [app24 (by simp; omega)]
        simp only [Option.bind_some, i1 (show j ≤ 100000 by omega)]
        rw [ih (j + 1) _ (by omega) (by omega) (by simp; omega), List.drop_eq_getElem_cons hlt, List.append_assoc]
        rfl
      · rw [dF hlt, List.drop_eq_nil_of_le (by omega), List.append_nil]; rfl
  have := lp N 0 [] (by omega) (by omega) (by simp)
  rw [show ((0 : Nat) : Int) = 0 from rfl] at this
  simp only [script_copied, this, Option.bind_some, script_copied_J1, List.nil_append, List.drop_zero]
def boundB (st : List (List Int)) : Bool := !decide (64 < st.length) && st.all fun x => !decide (520 < (x.length : Int))
theorem bounded_eq (st : List (List Int)) : script_bounded N st = some (boundB st) := by
  unfold script_bounded boundB
  by_cases hl : 64 < st.length
  · rw [show decide ((64 : Int) < ((st.length : Nat) : Int)) = true from decide_eq_true (by omega), decide_eq_true hl]; rfl
  · have := loop_all (f := script_bounded_L2 N st) (xs := st) (p := fun x => !decide (520 < (x.length : Int))) (r := false) (fun m j hj => by
      rw [script_bounded_L2, dT hj, if_pos rfl, idx_lt st hj]
      simp only [Option.bind_some, i1 (show j ≤ 100000 by omega)]
      cases decide (520 < ((st[j].length : Nat) : Int)) <;> rfl) (fun m j hj => by rw [script_bounded_L2, dF (by omega)]; rfl) N 0 (by omega) (by omega)
    rw [show ((0 : Nat) : Int) = 0 from rfl, List.drop_zero] at this
    rw [show decide ((64 : Int) < ((st.length : Nat) : Int)) = false from decide_eq_false (by omega), decide_eq_false hl, this]
    cases st.all fun x => !decide (520 < (x.length : Int)) <;> rfl
end
theorem boundB_ws {st : List (List Int)} (hb : ∀ x ∈ st, Byt x) : boundB st = true ↔ WS st := by
  unfold boundB
  constructor
  · intro h
    simp only [Bool.and_eq_true, List.all_eq_true, Bool.not_eq_true', decide_eq_false_iff_not] at h
    exact ⟨by omega, fun x hx => ⟨hb x hx, by have := h.2 x hx; omega⟩⟩
  · intro h
    simp only [Bool.and_eq_true, List.all_eq_true, Bool.not_eq_true', decide_eq_false_iff_not]
    exact ⟨by have := h.len; omega, fun x hx => by have := (h.it x hx).2; omega⟩
def runV (N : Nat) (b : List Int) (st : List (List Int)) (m : List Int) (h a : Int) : List (List Int) × Int × Int :=
  if (parsed b).2 ≠ 0 then ([], 0, (parsed b).2) else if nestB (parsed b).1 = false then ([], 0, 86) else if boundB st = false then ([], 0, 4)
  else if (runR N m h a (parsed b).1 ⟨st, [], 0⟩).1 = 0 then ((runR N m h a (parsed b).1 ⟨st, [], 0⟩).2.st, (runR N m h a (parsed b).1 ⟨st, [], 0⟩).2.c, 0) else ([], 0, (runR N m h a (parsed b).1 ⟨st, [], 0⟩).1)
theorem nestB_ok {l : List S_api_Op} : nestB l = true ↔ nestR l [] = some [] := by
  unfold nestB
  cases nestR l [] with
  | none => simp
  | some q => cases q <;> simp; omega
section
variable {N : Nat} (hN : 70000 ≤ N) {m : List Int} (hm : m.length = 32) (hb : Byt m)
include hN hm hb
theorem run_fin {b : List Int} (hbb : Byt b) {st : List (List Int)} (h a : Int) (hp : (parsed b).2 = 0) (hn : nestB (parsed b).1 = true) (hw : WS st) (he : (runR N m h a (parsed b).1 ⟨st, [], 0⟩).1 = 0) : OkS (runR N m h a (parsed b).1 ⟨st, [], 0⟩).2 ∧ (runR N m h a (parsed b).1 ⟨st, [], 0⟩).2.br = [] := by
  obtain ⟨p1, p2, _⟩ := parsed_ok hbb hp
  obtain ⟨g1, _, g3⟩ := run_inv hN hm hb (h := h) (a := a) (parsed b).1 ⟨st, [], 0⟩ [] [] p1 ⟨hw, by simp⟩ rfl (nestB_ok.1 hn) (by simp; omega) he
  exact ⟨g1, nil_len.2 g3⟩
theorem Run_eq {b : List Int} (hbb : Byt b) {st : List (List Int)} (hst : ∀ x ∈ st, Byt x) (h a : Int) : script_Run N b st m h a = some (runV N b st m h a) := by
  unfold script_Run runV
  rw [parse_eq hN hbb]
  simp only [Option.bind_some]
  by_cases hp : (parsed b).2 = 0
  · obtain ⟨p1, p2, _⟩ := parsed_ok hbb hp
    rw [if_neg (by simpa using hp), hp, nested_eq hN (by omega), bounded_eq hN]
    simp only [Option.bind_some, show ((0 : Int) != 0) = false from rfl, Bool.false_eq_true, if_false]
    cases hn : nestB (parsed b).1 with
    | false => rfl
    | true =>
      cases hB : boundB st with
      | false => rfl
      | true =>
        have hw := (boundB_ws hst).1 hB
        have hl := hw.len
        have lp := run_loop hN hm hb (h := h) (a := a) (parsed b).1 (parsed b).2 p1 (by omega) N 0 ⟨st, [], 0⟩ [] [] (by omega) (by omega) ⟨hw, by simp⟩ rfl (nestB_ok.1 hn) (by simp)
        rw [show ((0 : Nat) : Int) = 0 from rfl, List.drop_zero] at lp
        simp only [Bool.not_true, Bool.false_eq_true, Bool.true_eq_false, if_false, copied_eq hN (show st.length ≤ 1000 by omega) (fun x hx => (hw.it x hx).2), Option.bind_some, script_Run_J1]
        rw [show (script_Run_L3 N (parsed b) N 0 m h a 0 st []) = _ from lp]
        simp only [Option.bind_some, runQ]
        by_cases he : (runR N m h a (parsed b).1 ⟨st, [], 0⟩).1 = 0
        · obtain ⟨g1, _⟩ := run_fin hN hm hb hbb h a hp hn hw he
          have gl := g1.ws.len
          rw [if_pos he, if_pos he]
          simp only [script_Run_J2, copied_eq hN (show (runR N m h a (parsed b).1 ⟨st, [], 0⟩).2.st.length ≤ 1000 by omega) (fun x hx => (g1.ws.it x hx).2), Option.bind_some]
          rfl
        · rw [if_neg he, if_neg he]; rfl
  · rw [if_pos hp, show ((parsed b).2 != 0) = true by simpa using hp]; rfl
end
end Go.Proofs.YtokmcbfnfmpemaaDoor
set_option linter.unusedSimpArgs false
set_option linter.unusedVariables false
set_option linter.unusedSectionVars false
namespace Go.Proofs.YtokmcbfnfmpemaaDoor
open Go Go.Vm
def NN : Nat := 70000
theorem NN_le : 70000 ≤ NN := Nat.le_refl _
theorem sane_true : law08_sane NN = some true := by decide +kernel
theorem keep_eq {N : Nat} (hN : 70000 ≤ N) (l : List (List Int)) : keep_Items N l 20 200 = some (!decide (20 < l.length) && l.all fun x => !decide (200 < (x.length : Int))) := by
  unfold keep_Items
  by_cases hl : 20 < l.length
  · rw [show decide ((20 : Int) < ((l.length : Nat) : Int)) = true from decide_eq_true (by omega), decide_eq_true hl]; rfl
  · have := loop_all (f := keep_Items_L2 N l 200) (xs := l) (p := fun x => !decide (200 < (x.length : Int))) (r := false) (fun m j hj => by
      rw [keep_Items_L2, dT hj, if_pos rfl, idx_lt l hj]
      simp only [Option.bind_some, i1 (show j ≤ 100000 by omega)]
      cases decide (200 < ((l[j].length : Nat) : Int)) <;> rfl) (fun m j hj => by rw [keep_Items_L2, dF (by omega)]; rfl) N 0 (by omega) (by omega)
    rw [show ((0 : Nat) : Int) = 0 from rfl, List.drop_zero] at this
    rw [show decide ((20 : Int) < ((l.length : Nat) : Int)) = false from decide_eq_false (by omega), decide_eq_false hl, this]
    cases l.all fun x => !decide (200 < (x.length : Int)) <;> rfl
theorem locE_later {N : Nat} {x : List Int} {h h' : Int} (hh : h ≤ h') (h0 : locE N x h = 0) : locE N x h' = 0 := by
  unfold locE at h0 ⊢
  cases hn : (numE N x).2 != 0 with
  | true => rw [hn] at h0; exact h0
  | false =>
    rw [hn] at h0
    simp only [Bool.false_eq_true, if_false, decide_eq_true_eq] at h0 ⊢
    by_cases g : h < IntKind.i64.wrap (numE N x).1
    · rw [if_pos g] at h0; cases h0
    · rw [if_neg (by omega)]
theorem carry_later {N : Nat} {m : List Int} {h a h' a' : Int} (hh : h ≤ h') (ha : a ≤ a') {o : S_api_Op} {st : List (List Int)} (h0 : (carryR N m h a o st).1 = 0) : carryR N m h' a' o st = carryR N m h a o st := by
  unfold carryR at h0 ⊢
  by_cases h12 : o.Code = 12
  · simp only [h12] at h0 ⊢
    simp at h0 ⊢
    rw [h0]; exact locE_later hh h0
  · by_cases h13 : o.Code = 13
    · simp only [h13] at h0 ⊢
      simp at h0 ⊢
      rw [h0]; exact locE_later ha h0
    · simp only [if_neg h12, if_neg h13]
theorem step_later {N : Nat} {m : List Int} {h a h' a' : Int} (hh : h ≤ h') (ha : a ≤ a') {o : S_api_Op} {s : St} (h0 : (stepR N m h a o s).1 = 0) : stepR N m h' a' o s = stepR N m h a o s := by
  have body : ∀ k s, (bodyR N m h a o k s).1 = 0 → bodyR N m h' a' o k s = bodyR N m h a o k s := by
    intro k s h0
    unfold bodyR at h0 ⊢
    by_cases h14 : o.Code = 14
    · simp only [if_pos h14]
    by_cases h15 : o.Code = 15
    · simp only [if_neg h14, if_pos h15]
    by_cases h16 : o.Code = 16
    · simp only [if_neg h14, if_neg h15, if_pos h16]
    simp only [if_neg h14, if_neg h15, if_neg h16] at h0 ⊢
    cases k
    · rfl
    · simp only [if_true] at h0 ⊢
      rw [carry_later hh ha h0]
  unfold stepR at h0 ⊢
  cases hc : countR o s.br with
  | false =>
    rw [hc] at h0
    exact body _ _ h0
  | true =>
    rw [hc] at h0
    simp only [if_true] at h0 ⊢
    by_cases h5 : 500 < s.c + priceR o
    · rw [if_pos h5, if_pos h5]
    · simp only [if_neg h5] at h0 ⊢
      by_cases h6 : (s.st.length : Int) < needsR o
      · rw [if_pos h6, if_pos h6]
      · simp only [if_neg h6] at h0 ⊢
        exact body _ _ h0
theorem run_later {N : Nat} {m : List Int} {h a h' a' : Int} (hh : h ≤ h') (ha : a ≤ a') : ∀ (r : List S_api_Op) (s : St), (runR N m h a r s).1 = 0 → runR N m h' a' r s = runR N m h a r s
  | [], s, _ => rfl
  | o :: r, s, h0 => by
    simp only [runR] at h0 ⊢
    by_cases g : (stepR N m h a o s).1 = 0
    · rw [if_pos g] at h0
      rw [step_later hh ha g, if_pos g, if_pos g]
      exact run_later hh ha r _ h0
    · rw [if_neg g] at h0; exact absurd h0 g
theorem runV_later {N : Nat} {b : List Int} {st : List (List Int)} {m : List Int} {h a h' a' : Int} (hh : h ≤ h') (ha : a ≤ a') (h0 : (runV N b st m h a).2.2 = 0) : runV N b st m h' a' = runV N b st m h a := by
  unfold runV at h0 ⊢
  by_cases hp : (parsed b).2 ≠ 0
  · rw [if_pos hp, if_pos hp]
  · simp only [if_neg hp] at h0 ⊢
    by_cases hn : nestB (parsed b).1 = false
    · rw [if_pos hn, if_pos hn]
    · simp only [if_neg hn] at h0 ⊢
      by_cases hB : boundB st = false
      · rw [if_pos hB, if_pos hB]
      · simp only [if_neg hB] at h0 ⊢
        by_cases he : (runR N m h a (parsed b).1 ⟨st, [], 0⟩).1 = 0
        · rw [run_later hh ha _ _ he]
        · rw [if_neg he] at h0; exact absurd h0 he
def satV (r : List (List Int) × Int × Int) : Int := if r.2.2 ≠ 0 then r.2.2 else if r.1.length ≠ 1 then 81 else if truthE (r.1.getD 0 []) then 0 else 84
section
variable {N : Nat} (hN : 70000 ≤ N) {m : List Int} (hm : m.length = 32) (hb : Byt m)
include hN hm hb
theorem runV_ws {b : List Int} (hbb : Byt b) {st : List (List Int)} (hst : ∀ x ∈ st, Byt x) {h a : Int} (h0 : (runV N b st m h a).2.2 = 0) : (parsed b).2 = 0 ∧ nestB (parsed b).1 = true ∧ WS st ∧ (runR N m h a (parsed b).1 ⟨st, [], 0⟩).1 = 0 ∧ OkS (runR N m h a (parsed b).1 ⟨st, [], 0⟩).2 ∧ (runR N m h a (parsed b).1 ⟨st, [], 0⟩).2.br = [] ∧ runV N b st m h a = ((runR N m h a (parsed b).1 ⟨st, [], 0⟩).2.st, (runR N m h a (parsed b).1 ⟨st, [], 0⟩).2.c, 0) := by
  unfold runV at h0 ⊢
  by_cases hp : (parsed b).2 ≠ 0
  · rw [if_pos hp] at h0; exact absurd h0 hp
  · simp only [if_neg hp] at h0 ⊢
    by_cases hn : nestB (parsed b).1 = false
    · rw [if_pos hn] at h0; cases h0
    · simp only [if_neg hn] at h0 ⊢
      by_cases hB : boundB st = false
      · rw [if_pos hB] at h0; cases h0
      · simp only [if_neg hB] at h0 ⊢
        by_cases he : (runR N m h a (parsed b).1 ⟨st, [], 0⟩).1 = 0
        · have hn' : nestB (parsed b).1 = true := by simpa using hn
          have hw := (boundB_ws hst).1 (by simpa using hB)
          have hp' : (parsed b).2 = 0 := by simpa using hp
          obtain ⟨g1, g2⟩ := run_fin hN hm hb hbb h a hp' hn' hw he
          rw [if_pos he]
          exact ⟨hp', hn', hw, he, g1, g2, rfl⟩
        · rw [if_neg he] at h0; exact absurd h0 he
theorem sat_eq {b : List Int} (hbb : Byt b) {st : List (List Int)} (hst : ∀ x ∈ st, Byt x) (h a : Int) : script_Satisfied N b st m h a = some (satV (runV N b st m h a)) := by
  unfold script_Satisfied satV
  rw [Run_eq hN hm hb hbb hst]
  simp only [Option.bind_some]
  by_cases h0 : (runV N b st m h a).2.2 = 0
  · obtain ⟨_, _, _, _, g, _, e⟩ := runV_ws hN hm hb hbb hst h0
    rw [if_neg (show ¬ (runV N b st m h a).2.2 ≠ 0 from fun h => h h0), show ((runV N b st m h a).2.2 != 0) = false by simpa using h0]
    simp only [Bool.false_eq_true, if_false]
    have hw : ∀ x ∈ (runV N b st m h a).1, x.length ≤ 520 := fun x hx => by rw [e] at hx; exact (g.ws.it x hx).2
    generalize (runV N b st m h a).1 = l at hw ⊢
    match l with
    | [] => rfl
    | [x] =>
      have hx := hw x (by simp)
      simp only [idx0, Option.bind_some, truth_eq hN (show x.length ≤ 60000 by omega)]
      show (if (!truthE x) = true then some 84 else some 0) = some (if truthE x = true then 0 else 84)
      cases truthE x <;> rfl
    | x :: y :: r =>
      have e1 : ((((x :: y :: r).length : Nat) : Int) != 1) = true := by simp; omega
      have e2 : (x :: y :: r).length ≠ 1 := by simp
      rw [e1, if_pos e2]; rfl
  · rw [if_pos h0, show ((runV N b st m h a).2.2 != 0) = true by simpa using h0]; rfl
end
theorem satV_zero {r : List (List Int) × Int × Int} (h : satV r = 0) : r.2.2 = 0 := by
  unfold satV at h
  by_cases h0 : r.2.2 = 0
  · exact h0
  · rw [if_pos h0] at h; exact h
theorem ScriptLater_true (b : List Int) (w : List (List Int)) (m : List Int) (h a dh da : Int) (hbb : Byt b) (hw : ∀ x ∈ w, Byt x) (hm : m.length = 32) (hmb : Byt m) (hh : -9223372036854775808 ≤ h) (ha : -9223372036854775808 ≤ a) (hdh : 0 ≤ dh ∧ dh < 256) (hda : 0 ≤ da ∧ da < 256) : law08_ScriptLater NN b w m h a dh da = some true := by
  have hJ : law08_ScriptLater_J1 NN b w m h a dh da true = some true := rfl
  unfold law08_ScriptLater
  rw [sane_true, keep_eq NN_le, sat_eq NN_le hm hmb hbb hw]
  simp only [Option.bind_some, Bool.not_true, Bool.false_eq_true, if_false]
  split
  · exact hJ
  split
  · exact hJ
  by_cases h0 : satV (runV NN b w m h a) = 0
  · rw [h0, show ((0 : Int) != 0) = false from rfl]
    simp only [Bool.false_eq_true, if_false]
    by_cases h1 : 16777216 < h
    · rw [decide_eq_true h1]; exact hJ
    · rw [decide_eq_false h1]
      by_cases h2 : 16777216 < a
      · rw [decide_eq_true h2]; exact hJ
      · rw [decide_eq_false h2]
        simp only [Bool.false_eq_true, if_false, law08_ScriptLater_J1, law08_ScriptLater_J2]
        rw [w64 (a := dh) (by omega) (by omega), w64 (a := da) (by omega) (by omega), w64 (a := h + dh) (by omega) (by omega), w64 (a := a + da) (by omega) (by omega), sat_eq NN_le hm hmb hbb hw, runV_later (by omega) (by omega) (satV_zero h0), h0]
        rfl
  · rw [show (satV (runV NN b w m h a) != 0) = true by simpa using h0]
    exact hJ
end Go.Proofs.YtokmcbfnfmpemaaDoor
set_option linter.unusedSimpArgs false
set_option linter.unusedVariables false
set_option linter.unusedSectionVars false
namespace Go.Proofs.YtokmcbfnfmpemaaDoor
open Go Go.Vm
theorem same_refl {N : Nat} (hN : 70000 ≤ N) {l : List (List Int)} (hl : l.length ≤ 1000) : ref08_SameItems N l l = some true := by
  have := loop_all (f := ref08_SameItems_L2 N l l) (xs := l) (p := fun _ => true) (r := false) (fun m j hj => by
    rw [ref08_SameItems_L2, dT hj, if_pos rfl, idx_lt l hj]
    simp only [Option.bind_some, i1 (show j ≤ 100000 by omega), ref01_Same, beq_self_eq_true]
    rfl) (fun m j hj => by rw [ref08_SameItems_L2, dF (by omega)]; rfl) N 0 (by omega) (by omega)
  rw [show ((0 : Nat) : Int) = 0 from rfl, List.drop_zero] at this
  unfold ref08_SameItems
  rw [show (((l.length : Nat) : Int) != ((l.length : Nat) : Int)) = false by simp, this]
  simp
  rfl
def pay (k : Int) (s : St) : St := ⟨s.st, s.br, s.c + k⟩
theorem body_pay {N : Nat} {m : List Int} {h a : Int} {o : S_api_Op} (k : Bool) (d : Int) (s : St) : bodyR N m h a o k (pay d s) = ((bodyR N m h a o k s).1, pay d (bodyR N m h a o k s).2) := by
  unfold bodyR pay
  by_cases h14 : o.Code = 14
  · simp only [if_pos h14]
  by_cases h15 : o.Code = 15
  · simp only [if_neg h14, if_pos h15]
  by_cases h16 : o.Code = 16
  · simp only [if_neg h14, if_neg h15, if_pos h16]
  simp only [if_neg h14, if_neg h15, if_neg h16]
  cases k <;> rfl
theorem step_pay {N : Nat} {m : List Int} {h a : Int} {o : S_api_Op} {s : St} {d : Int} (h0 : (stepR N m h a o s).1 = 0) (hd : (stepR N m h a o s).2.c + d ≤ 500) : stepR N m h a o (pay d s) = (0, pay d (stepR N m h a o s).2) := by
  have cost : ∀ k s, (bodyR N m h a o k s).2.c = s.c := by
    intro k s
    unfold bodyR
    by_cases h14 : o.Code = 14
    · simp only [if_pos h14]
    by_cases h15 : o.Code = 15
    · simp only [if_neg h14, if_pos h15]
    by_cases h16 : o.Code = 16
    · simp only [if_neg h14, if_neg h15, if_pos h16]
    simp only [if_neg h14, if_neg h15, if_neg h16]
    cases k <;> rfl
  unfold stepR at h0 hd ⊢
  rw [show countR o (pay d s).br = countR o s.br from rfl]
  cases hc : countR o s.br with
  | false =>
    rw [hc] at h0 hd
    simp only [Bool.false_eq_true, if_false] at h0 hd ⊢
    rw [body_pay, h0]
  | true =>
    rw [hc] at h0 hd
    simp only [if_true] at h0 hd ⊢
    by_cases h5 : 500 < s.c + priceR o
    · rw [if_pos h5] at h0; cases h0
    · simp only [if_neg h5] at h0 hd ⊢
      by_cases h6 : (s.st.length : Int) < needsR o
      · rw [if_pos h6] at h0; cases h0
      · simp only [if_neg h6] at h0 hd ⊢
        rw [cost] at hd
        have hd' : s.c + priceR o + d ≤ 500 := hd
        have e : (pay d s).c = s.c + d := rfl
        rw [if_neg (by rw [e]; omega), if_neg (show ¬ ((pay d s).st.length : Int) < needsR o from h6)]
        rw [show (⟨(pay d s).st, (pay d s).br, (pay d s).c + priceR o⟩ : St) = pay d ⟨s.st, s.br, s.c + priceR o⟩ by simp only [pay, St.mk.injEq, true_and]; omega, body_pay, h0]
theorem run_app {N : Nat} {m : List Int} {h a : Int} : ∀ (x y : List S_api_Op) (s : St), (runR N m h a x s).1 = 0 → runR N m h a (x ++ y) s = runR N m h a y (runR N m h a x s).2
  | [], y, s, _ => rfl
  | o :: x, y, s, h0 => by
    simp only [List.cons_append, runR] at h0 ⊢
    by_cases g : (stepR N m h a o s).1 = 0
    · simp only [if_pos g] at h0 ⊢
      exact run_app x y _ h0
    · rw [if_neg g] at h0; exact absurd h0 g
section
variable {N : Nat} (hN : 70000 ≤ N) {m : List Int} (hm : m.length = 32) (hb : Byt m)
include hN hm hb
theorem run_pay {h a d : Int} : ∀ (r : List S_api_Op) (s : St) (l q : List Bool), (∀ o ∈ r, VOp o) → OkS s → s.br.length = l.length → nestR r l = some q → s.br.length + r.length ≤ 1000 → (runR N m h a r s).1 = 0 → (runR N m h a r s).2.c + d ≤ 500 → runR N m h a r (pay d s) = (0, pay d (runR N m h a r s).2)
  | [], s, l, q, _, _, _, _, _, _, _ => rfl
  | o :: r, s, l, q, hv, hs, hl, hn, hlen, h0, hd => by
    simp only [List.length_cons] at hlen
    obtain ⟨s', h1, h2⟩ := step_inv hN hm hb (h := h) (a := a) (hv o (by simp)) hs hl hn (by omega)
    simp only [runR] at h0 hd ⊢
    by_cases g : (stepR N m h a o s).1 = 0
    · obtain ⟨e, g1, g2, g3, l', g4, g5⟩ := h2 g
      simp only [if_pos g] at h0 hd ⊢
      rw [← e] at h0 hd
      obtain ⟨_, k2, _⟩ := run_inv hN hm hb r s' l' q (fun o ho => hv o (by simp [ho])) g1 g4 g5 (by omega) h0
      rw [step_pay g (by rw [← e]; omega)]
      simp only [if_true]
      rw [← e]
      exact run_pay r s' l' q (fun o ho => hv o (by simp [ho])) g1 g4 g5 (by omega) h0 hd
    · rw [if_neg g] at h0; exact absurd h0 g
end
theorem ScriptJoins_true (x y : List Int) (st : List (List Int)) (m : List Int) (h a : Int) (hx : Byt x) (hy : Byt y) (hst : ∀ z ∈ st, Byt z) (hm : m.length = 32) (hmb : Byt m) : law08_ScriptJoins NN x y st m h a = some true := by
  have hJ1 : law08_ScriptJoins_J1 NN x y st m h a true = some true := rfl
  have core : IntKind.i64.wrap ((x.length : Int) + (y.length : Int)) ≤ 520 → law08_ScriptJoins_J1 NN x y st m h a false = some true := by
    intro hwlen
    have hR : ∀ z ∈ (runV NN x st m h a).1, Byt z := by
      intro z hz
      by_cases h0 : (runV NN x st m h a).2.2 = 0
      · obtain ⟨_, _, _, _, g, _, e⟩ := runV_ws NN_le hm hmb hx hst h0
        rw [e] at hz
        exact (g.ws.it z hz).1
      · have : (runV NN x st m h a).1 = [] := by
          unfold runV at h0 ⊢
          split
          · rfl
          split
          · rfl
          split
          · rfl
          split
          · rename_i p1 p2 p3 p4
            rw [if_neg p1, if_neg p2, if_neg p3, if_pos p4] at h0
            exact absurd rfl h0
          · rfl
        rw [this] at hz; cases hz
    have hJ2 : law08_ScriptJoins_J2 NN x y st m h a (runV NN x st m h a) (runV NN y (runV NN x st m h a).1 m h a) true = some true := rfl
    unfold law08_ScriptJoins_J1
    simp only [Bool.false_eq_true, if_false, Run_eq NN_le hm hmb hx hst, Run_eq NN_le hm hmb hy hR, Option.bind_some]
    by_cases h1 : (runV NN x st m h a).2.2 = 0
    · rw [show ((runV NN x st m h a).2.2 != 0) = false by simpa using h1]
      by_cases h2 : (runV NN y (runV NN x st m h a).1 m h a).2.2 = 0
      · rw [show ((runV NN y (runV NN x st m h a).1 m h a).2.2 != 0) = false by simpa using h2]
        simp only [Bool.false_eq_true, if_false]
        obtain ⟨x1, x2, x3, x4, x5, x6, x7⟩ := runV_ws NN_le hm hmb hx hst h1
        obtain ⟨y1, y2, y3, y4, y5, y6, y7⟩ := runV_ws NN_le hm hmb hy hR h2
        have lx := (parsed_ok hx x1).2.2.1
        have lyy := (parsed_ok hy y1).2.2.1
        have hlen : x.length + y.length ≤ 520 := by rw [w64 (by omega) (by omega)] at hwlen; omega
        have hc1 := x5.c
        have hc2 := y5.c
        have ex1 : (runV NN x st m h a).1 = (runR NN m h a (parsed x).1 ⟨st, [], 0⟩).2.st := by rw [x7]
        have ex2 : (runV NN x st m h a).2.1 = (runR NN m h a (parsed x).1 ⟨st, [], 0⟩).2.c := by rw [x7]
        rw [y7, ex2, ex1]
        rw [ex1] at y4 y5 y6 hc2
        dsimp only
        rw [w64 (a := _ + _) (by omega) (by omega)]
        by_cases h5 : 500 < (runR NN m h a (parsed x).1 ⟨st, [], 0⟩).2.c + (runR NN m h a (parsed y).1 ⟨(runR NN m h a (parsed x).1 ⟨st, [], 0⟩).2.st, [], 0⟩).2.c
        · rw [decide_eq_true h5]; rfl
        · rw [decide_eq_false h5]
          unfold law08_ScriptJoins_J2
          simp only [Bool.false_eq_true, if_false]
          rw [app2 (by simp; omega), List.nil_append, Option.bind_some, app2 (by omega), Option.bind_some, Run_eq NN_le hm hmb (hx.append hy) hst, Option.bind_some]
          have hp := parsed_app hx hy x1 y1 hlen
          have n1 := nestB_ok.1 x2
          have n2 := nestB_ok.1 y2
          obtain ⟨vy, ly, _⟩ := parsed_ok hy y1
          have hn : nestB (parsed (x ++ y)).1 = true := by rw [hp]; exact nestB_ok.2 (by rw [nestR_app, n1]; exact n2)
          have hB := (boundB_ws hst).2 x3
          have es : (runR NN m h a (parsed x).1 ⟨st, [], 0⟩).2 = pay (runR NN m h a (parsed x).1 ⟨st, [], 0⟩).2.c ⟨(runR NN m h a (parsed x).1 ⟨st, [], 0⟩).2.st, [], 0⟩ := by
            generalize runR NN m h a (parsed x).1 ⟨st, [], 0⟩ = r at x6 ⊢
            obtain ⟨e, s, b, c⟩ := r
            simp only at x6
            subst x6
            simp [pay]
          have er : runR NN m h a (parsed (x ++ y)).1 ⟨st, [], 0⟩ = (0, pay (runR NN m h a (parsed x).1 ⟨st, [], 0⟩).2.c (runR NN m h a (parsed y).1 ⟨(runR NN m h a (parsed x).1 ⟨st, [], 0⟩).2.st, [], 0⟩).2) := by
            rw [hp, run_app _ _ _ x4]
            have := run_pay NN_le hm hmb (h := h) (a := a) (d := (runR NN m h a (parsed x).1 ⟨st, [], 0⟩).2.c) (parsed y).1 ⟨(runR NN m h a (parsed x).1 ⟨st, [], 0⟩).2.st, [], 0⟩ [] [] vy ⟨x5.ws, by simp⟩ rfl n2 (by simp; omega) y4 (by omega)
            rw [← es] at this
            exact this
          have ev : runV NN (x ++ y) st m h a = ((runR NN m h a (parsed y).1 ⟨(runR NN m h a (parsed x).1 ⟨st, [], 0⟩).2.st, [], 0⟩).2.st, (runR NN m h a (parsed y).1 ⟨(runR NN m h a (parsed x).1 ⟨st, [], 0⟩).2.st, [], 0⟩).2.c + (runR NN m h a (parsed x).1 ⟨st, [], 0⟩).2.c, 0) := by
            unfold runV
            rw [if_neg (by rw [hp]; simp), if_neg (by rw [hn]; simp), if_neg (by rw [hB]; simp), er, if_pos rfl]
            rfl
          rw [ev]
          unfold law08_ScriptJoins_J3
          have hl := y5.ws.len
          simp only
          rw [ex2, w64 (a := _ + _) (by omega) (by omega), show (((0 : Int) == 0) = true) from rfl, Int.add_comm (runR NN m h a (parsed y).1 ⟨(runR NN m h a (parsed x).1 ⟨st, [], 0⟩).2.st, [], 0⟩).2.c, beq_self_eq_true]
          simp only [if_true]
          rw [same_refl NN_le (by omega)]
          rfl
      · rw [show ((runV NN y (runV NN x st m h a).1 m h a).2.2 != 0) = true by simpa using h2]
        exact hJ2
    · rw [show ((runV NN x st m h a).2.2 != 0) = true by simpa using h1]
      exact hJ2
  unfold law08_ScriptJoins
  rw [sane_true, keep_eq NN_le]
  simp only [Option.bind_some, Bool.not_true, Bool.false_eq_true, if_false]
  generalize (!decide (20 < st.length) && st.all fun x => !decide (200 < (x.length : Int))) = k
  by_cases hw : IntKind.i64.wrap ((x.length : Int) + (y.length : Int)) ≤ 520
  · rw [decide_eq_false (by omega)]
    simp only [Bool.false_eq_true, if_false]
    cases k with
    | false => exact hJ1
    | true => exact core hw
  · rw [decide_eq_true (by omega)]; exact hJ1
end Go.Proofs.YtokmcbfnfmpemaaDoor
namespace Go.Proofs.YtokmcbfnfmpemaaDoor
open Go Go.Vm
theorem mixed : Tryd.prog.follows .mixedOrders = true := by kernel_rfl
theorem dep : 2 ≤ Tryd.prog.depth := Nat.le_of_ble_eq_true (by kernel_rfl)
noncomputable def E0 : Env Tryd.prog := Env.zero mixed
noncomputable def E1 : Env Tryd.prog := { O := fun _ _ _ => none, F := allF, ok := fun _ _ _ _ _ hh => (by cases hh), still := fun _ _ _ _ _ _ hh => (by cases hh), mixed := mixed }
theorem fap27_0 (b off : Nat) : fieldAtV Tryd.prog 27 (.ptr b off) 0 = some (.ptr b (off + 0)) := by simp [fieldAtV, ti27, ti25]
theorem fae27_0 (es : List V) (i off : Nat) : fieldAtV Tryd.prog 27 (.eptr es i off) 0 = some (.eptr es i (off + 0)) := by simp [fieldAtV, ti27, ti25]
theorem fap27_1 (b off : Nat) : fieldAtV Tryd.prog 27 (.ptr b off) 1 = some (.ptr b (off + 32)) := by simp [fieldAtV, ti27, ti3]
theorem fae27_1 (es : List V) (i off : Nat) : fieldAtV Tryd.prog 27 (.eptr es i off) 1 = some (.eptr es i (off + 32)) := by simp [fieldAtV, ti27, ti3]
theorem fap27_2 (b off : Nat) : fieldAtV Tryd.prog 27 (.ptr b off) 2 = some (.ptr b (off + 33)) := by simp [fieldAtV, ti27, ti3]
theorem fae27_2 (es : List V) (i off : Nat) : fieldAtV Tryd.prog 27 (.eptr es i off) 2 = some (.eptr es i (off + 33)) := by simp [fieldAtV, ti27, ti3]
theorem fap49_0 (b off : Nat) : fieldAtV Tryd.prog 49 (.ptr b off) 0 = some (.ptr b (off + 0)) := by simp [fieldAtV, ti49, ti27]
theorem fae49_0 (es : List V) (i off : Nat) : fieldAtV Tryd.prog 49 (.eptr es i off) 0 = some (.eptr es i (off + 0)) := by simp [fieldAtV, ti49, ti27]
theorem fap49_1 (b off : Nat) : fieldAtV Tryd.prog 49 (.ptr b off) 1 = some (.ptr b (off + 34)) := by simp [fieldAtV, ti49, ti23]
theorem fae49_1 (es : List V) (i off : Nat) : fieldAtV Tryd.prog 49 (.eptr es i off) 1 = some (.eptr es i (off + 34)) := by simp [fieldAtV, ti49, ti23]
theorem fap49_2 (b off : Nat) : fieldAtV Tryd.prog 49 (.ptr b off) 2 = some (.ptr b (off + 35)) := by simp [fieldAtV, ti49, ti47]
theorem fae49_2 (es : List V) (i off : Nat) : fieldAtV Tryd.prog 49 (.eptr es i off) 2 = some (.eptr es i (off + 35)) := by simp [fieldAtV, ti49, ti47]
theorem fap49_3 (b off : Nat) : fieldAtV Tryd.prog 49 (.ptr b off) 3 = some (.ptr b (off + 36)) := by simp [fieldAtV, ti49, ti3]
theorem fae49_3 (es : List V) (i off : Nat) : fieldAtV Tryd.prog 49 (.eptr es i off) 3 = some (.eptr es i (off + 36)) := by simp [fieldAtV, ti49, ti3]
theorem fap51_0 (b off : Nat) : fieldAtV Tryd.prog 51 (.ptr b off) 0 = some (.ptr b (off + 0)) := by simp [fieldAtV, ti51, ti3]
theorem fae51_0 (es : List V) (i off : Nat) : fieldAtV Tryd.prog 51 (.eptr es i off) 0 = some (.eptr es i (off + 0)) := by simp [fieldAtV, ti51, ti3]
theorem fap51_1 (b off : Nat) : fieldAtV Tryd.prog 51 (.ptr b off) 1 = some (.ptr b (off + 1)) := by simp [fieldAtV, ti51, ti22]
theorem fae51_1 (es : List V) (i off : Nat) : fieldAtV Tryd.prog 51 (.eptr es i off) 1 = some (.eptr es i (off + 1)) := by simp [fieldAtV, ti51, ti22]
theorem fap51_2 (b off : Nat) : fieldAtV Tryd.prog 51 (.ptr b off) 2 = some (.ptr b (off + 2)) := by simp [fieldAtV, ti51, ti3]
theorem fae51_2 (es : List V) (i off : Nat) : fieldAtV Tryd.prog 51 (.eptr es i off) 2 = some (.eptr es i (off + 2)) := by simp [fieldAtV, ti51, ti3]
theorem fap51_3 (b off : Nat) : fieldAtV Tryd.prog 51 (.ptr b off) 3 = some (.ptr b (off + 3)) := by simp [fieldAtV, ti51, ti3]
theorem fae51_3 (es : List V) (i off : Nat) : fieldAtV Tryd.prog 51 (.eptr es i off) 3 = some (.eptr es i (off + 3)) := by simp [fieldAtV, ti51, ti3]
theorem fap62_0 (b off : Nat) : fieldAtV Tryd.prog 62 (.ptr b off) 0 = some (.ptr b (off + 0)) := by simp [fieldAtV, ti62, ti4]
theorem fae62_0 (es : List V) (i off : Nat) : fieldAtV Tryd.prog 62 (.eptr es i off) 0 = some (.eptr es i (off + 0)) := by simp [fieldAtV, ti62, ti4]
theorem fap62_1 (b off : Nat) : fieldAtV Tryd.prog 62 (.ptr b off) 1 = some (.ptr b (off + 1)) := by simp [fieldAtV, ti62, ti4]
theorem fae62_1 (es : List V) (i off : Nat) : fieldAtV Tryd.prog 62 (.eptr es i off) 1 = some (.eptr es i (off + 1)) := by simp [fieldAtV, ti62, ti4]
theorem fap88_0 (b off : Nat) : fieldAtV Tryd.prog 88 (.ptr b off) 0 = some (.ptr b (off + 0)) := by simp [fieldAtV, ti88, ti84]
theorem fae88_0 (es : List V) (i off : Nat) : fieldAtV Tryd.prog 88 (.eptr es i off) 0 = some (.eptr es i (off + 0)) := by simp [fieldAtV, ti88, ti84]
theorem fap88_1 (b off : Nat) : fieldAtV Tryd.prog 88 (.ptr b off) 1 = some (.ptr b (off + 4)) := by simp [fieldAtV, ti88, ti84]
theorem fae88_1 (es : List V) (i off : Nat) : fieldAtV Tryd.prog 88 (.eptr es i off) 1 = some (.eptr es i (off + 4)) := by simp [fieldAtV, ti88, ti84]
theorem pl27 : placesOf Tryd.prog 27 = some #[(0, 32), (32, 1), (33, 1)] := by kernel_rfl
theorem pl49 : placesOf Tryd.prog 49 = some #[(0, 34), (34, 1), (35, 1), (36, 1)] := by kernel_rfl
theorem pl51 : placesOf Tryd.prog 51 = some #[(0, 1), (1, 1), (2, 1), (3, 1)] := by kernel_rfl
theorem pl62 : placesOf Tryd.prog 62 = some #[(0, 1), (1, 1)] := by kernel_rfl
theorem pl88 : placesOf Tryd.prog 88 = some #[(0, 4), (4, 4)] := by kernel_rfl
theorem zH {p : Prop} (h : p := by simp only [lent, lendSet, lendSet_nil, rnH, Blk.rn, V.rns, V.rn, sg, List.map_cons, List.map_nil, Option.map_some, Option.map_none, List.drop_succ_cons, List.drop_zero, List.drop_nil, List.set_cons_zero, List.set_cons_succ, List.cons_append, List.nil_append, List.append_nil, rns_eI, rns_eB, rns_eS, rns_eL, rns_C_api_Op, rns_K_api_Op, rns_C_script_branch, rns_K_script_branch, rns_ar4, rns_ar8, rns_ar20, rns_ar32, rns_ar64, rns_CA4, rns_CA32, List.getElem?_cons_zero, List.getElem?_cons_succ, List.getElem?_nil, List.length_cons, List.length_nil, Nat.reduceAdd, Nat.reduceSub, Nat.add_zero, Nat.zero_add, Nat.sub_self, Nat.sub_zero]) : p := h
theorem zB {f : FuncId} {hs hs' hb hb' : Hp} {args xs : List V} {r v : V} (hc : Vm.Fn Tryd.prog f hs args r hs') (ρ : List Nat) (hnd : ρ.Nodup := by decide) (hlt : ρ.all (fun b => Nat.blt b hb.length) = true := by rfl)
    (hl : Lend (sg ρ hb.length) hb ρ hs := by repeat (first | exact Lend.nil | refine Lend.cons rfl rfl ?_ | refine Lend.cons rfl (rns_map (fun _ => rfl) _) ?_ | refine Lend.cons rfl (rns_flat (fun _ => rfl) _) ?_)) (hx : V.rns (sg ρ hb.length) args = xs := by first | rfl | (simp only [V.rn, V.rns, rns_eI, rns_eB] <;> rfl)) (hr : r.rn (sg ρ hb.length) = v := by first | rfl | (simp only [V.rn, V.rns, rns_eI, rns_eB] <;> rfl)) (hh : lent hb ρ hs' = hb' := by simp only [lent, lendSet, lendSet_nil, rnH, Blk.rn, V.rns, V.rn, sg, List.map_cons, List.map_nil, Option.map_some, Option.map_none, List.drop_succ_cons, List.drop_zero, List.drop_nil, List.set_cons_zero, List.set_cons_succ, List.cons_append, List.nil_append, List.append_nil, rns_eI, rns_eB, rns_eS, rns_eL, rns_C_api_Op, rns_K_api_Op, rns_C_script_branch, rns_K_script_branch, rns_ar4, rns_ar8, rns_ar20, rns_ar32, rns_ar64, rns_CA4, rns_CA32, List.getElem?_cons_zero, List.getElem?_cons_succ, List.getElem?_nil, List.length_cons, List.length_nil, Nat.reduceAdd, Nat.reduceSub, Nat.add_zero, Nat.zero_add, Nat.sub_self, Nat.sub_zero]) : Vm.Fn Tryd.prog f hb xs v hb' := Vm.Fn.lendB hc ρ hnd hlt hl hx hr hh
theorem zL {f : FuncId} {hs hs' hb hb' : Hp} {args xs : List V} {r v : V} (hc : Vm.Fn Tryd.prog f hs args r hs') (ρ β : List Nat) (hnd : ρ.Nodup := by decide) (hlt : ρ.all (fun b => Nat.blt b hb.length) = true := by rfl) (hdis : ∀ b ∈ β, b ∉ ρ := by decide)
    (hl : Lend (sg ρ hb.length) hb ρ hs := by repeat (first | exact Lend.nil | refine Lend.cons rfl rfl ?_ | refine Lend.cons rfl (rns_map (fun _ => rfl) _) ?_ | refine Lend.cons rfl (rns_flat (fun _ => rfl) _) ?_))
    (hx : Brw (sg ρ hb.length) (only β hb) xs args := by repeat (first | exact Brw.nil | refine Brw.same rfl ?_ | refine Brw.row (exp_slT rfl rfl (fun _ => rfl)) ?_ | refine Brw.same (by simp only [V.rn, V.rns, rns_eI, rns_eB]) ?_))
    (hrf : r.rf = true := by first | rfl | simp [V.rf, V.rfs, rfs_eI, rfs_eB]) (hrb : rfB hs' := by repeat (first | exact rfB.nil | refine rfB.dead ?_ | refine rfB.live rfl ?_ | refine rfB.live (rfs_map (fun _ => rfl) _) ?_ | refine rfB.live (rfs_flat (fun _ => rfl) _) ?_))
    (hr : r.rn (sg ρ hb.length) = v := by first | rfl | (simp only [V.rn, V.rns, rns_eI, rns_eB] <;> rfl)) (hh : lent hb ρ hs' = hb' := by simp only [lent, lendSet, lendSet_nil, rnH, Blk.rn, V.rns, V.rn, sg, List.map_cons, List.map_nil, Option.map_some, Option.map_none, List.drop_succ_cons, List.drop_zero, List.drop_nil, List.set_cons_zero, List.set_cons_succ, List.cons_append, List.nil_append, List.append_nil, rns_eI, rns_eB, rns_eS, rns_eL, rns_C_api_Op, rns_K_api_Op, rns_C_script_branch, rns_K_script_branch, rns_ar4, rns_ar8, rns_ar20, rns_ar32, rns_ar64, rns_CA4, rns_CA32, List.getElem?_cons_zero, List.getElem?_cons_succ, List.getElem?_nil, List.length_cons, List.length_nil, Nat.reduceAdd, Nat.reduceSub, Nat.add_zero, Nat.zero_add, Nat.sub_self, Nat.sub_zero]) : Vm.Fn Tryd.prog f hb xs v hb' := Vm.Fn.lendR hc ρ β hnd hlt hdis hl hx hrf hrb hr hh
end Go.Proofs.YtokmcbfnfmpemaaDoor
