import Derived.Test.YtidkaiebgjbekaaDoorPlainB
set_option linter.unusedSimpArgs false
set_option linter.unusedVariables false
namespace Go.Proofs.YtidkaiebgjbekaaDoor
open Go Go.Vm

/-! ### The remainder is linear -/
theorem gk_xor (s t k : Nat) : gk (s ^^^ t) k = gk s k ^^^ gk t k := by
  unfold gk
  rw [Nat.testBit_xor]
  cases s.testBit k <;> cases t.testBit k <;> simp
theorem xor4 (a b c d : Nat) : (a ^^^ b) ^^^ (c ^^^ d) = (a ^^^ c) ^^^ (b ^^^ d) := by
  rw [Nat.xor_assoc, Nat.xor_assoc, ← Nat.xor_assoc b c d, Nat.xor_comm b c, Nat.xor_assoc]
theorem gx_xor (s t : Nat) : gx (s ^^^ t) = gx s ^^^ gx t := by
  unfold gx
  simp only [gk_xor]
  rw [xor4 (gk s 0), xor4 (gk s 0 ^^^ gk s 1), xor4 (gk s 0 ^^^ gk s 1 ^^^ gk s 2), xor4 (gk s 0 ^^^ gk s 1 ^^^ gk s 2 ^^^ gk s 3)]
theorem shl_xor (a b : Nat) : (a ^^^ b) * 2 ^ 5 = (a * 2 ^ 5) ^^^ (b * 2 ^ 5) := by
  rw [← Nat.shiftLeft_eq, ← Nat.shiftLeft_eq, ← Nat.shiftLeft_eq, Nat.shiftLeft_xor_distrib]
theorem st1_xor (a c x y : Nat) : st1 (a ^^^ c) (x ^^^ y) = st1 a x ^^^ st1 c y := by
  unfold st1
  rw [Nat.xor_mod_two_pow, shl_xor, Nat.xor_div_two_pow, gx_xor, xor4 (a % 2 ^ 25 * 2 ^ 5), xor4 (a % 2 ^ 25 * 2 ^ 5 ^^^ x)]
def xl : List Nat → List Nat → List Nat
  | x :: xs, y :: ys => (x ^^^ y) :: xl xs ys
  | _, _ => []
theorem rm_xor : ∀ (xs ys : List Nat) (a c : Nat), xs.length = ys.length → rm (a ^^^ c) (xl xs ys) = rm a xs ^^^ rm c ys
  | [], [], a, c, _ => rfl
  | x :: xs, y :: ys, a, c, h => by
    show rm (st1 (a ^^^ c) (x ^^^ y)) (xl xs ys) = rm (st1 a x) xs ^^^ rm (st1 c y) ys
    rw [st1_xor]
    exact rm_xor xs ys _ _ (by simpa using h)
  | [], _ :: _, _, _, h => by simp at h
  | _ :: _, [], _, _, h => by simp at h
theorem gx0 : gx 0 = 0 := by decide
theorem st1_small {c d : Nat} (hc : c < 2 ^ 25) (hd : d < 32) : st1 c d = c * 32 + d := by
  unfold st1
  have h1 : c / 2 ^ 25 = 0 := Nat.div_eq_of_lt hc
  rw [Nat.mod_eq_of_lt hc, h1, gx0, Nat.xor_zero]
  have := Nat.two_pow_add_eq_or_of_lt (show d < 2 ^ 5 from hd) c
  rw [show c * 2 ^ 5 = 2 ^ 5 * c from Nat.mul_comm _ _]
  have hx : 2 ^ 5 * c ^^^ d = 2 ^ 5 * c + d := by
    rw [this]
    apply Nat.eq_of_testBit_eq
    intro i
    rw [Nat.testBit_xor, Nat.testBit_or]
    by_cases hi : i < 5
    · have : (2 ^ 5 * c).testBit i = false := by rw [Nat.testBit_two_pow_mul]; simp; omega
      rw [this]; simp
    · have : d.testBit i = false := Nat.testBit_lt_two_pow (Nat.lt_of_lt_of_le (show d < 2 ^ 5 from hd) (Nat.pow_le_pow_right (by omega) (by omega)))
      rw [this]; simp
  rw [hx]
/-- Six digits are the number that they are the digits of. -/
theorem pack (r : Nat) (hr : r < 2 ^ 30) : rm 0 (six r) = r := by
  have h : ∀ i, dg r i < 32 := fun i => Nat.mod_lt _ (by decide)
  show st1 (st1 (st1 (st1 (st1 (st1 0 (dg r 0)) (dg r 1)) (dg r 2)) (dg r 3)) (dg r 4)) (dg r 5) = r
  have h0 := h 0
  have h1 := h 1
  have h2 := h 2
  have h3 := h 3
  have h4 := h 4
  have h5 := h 5
  rw [st1_small (c := 0) (by omega) h0, st1_small (c := 0 * 32 + dg r 0) (by omega) h1, st1_small (c := (0 * 32 + dg r 0) * 32 + dg r 1) (by omega) h2, st1_small (c := ((0 * 32 + dg r 0) * 32 + dg r 1) * 32 + dg r 2) (by omega) h3,
    st1_small (c := (((0 * 32 + dg r 0) * 32 + dg r 1) * 32 + dg r 2) * 32 + dg r 3) (by omega) h4, st1_small (c := ((((0 * 32 + dg r 0) * 32 + dg r 1) * 32 + dg r 2) * 32 + dg r 3) * 32 + dg r 4) (by omega) h5]
  clear h h0 h1 h2 h3 h4 h5
  simp only [dg, Nat.reduceMul, Nat.reduceSub, Nat.reducePow] at hr ⊢
  omega
theorem rm_nil0 : ∀ k, rm 0 (List.replicate k 0) = 0
  | 0 => rfl
  | k + 1 => by
    rw [List.replicate_succ]
    show rm (st1 0 0) (List.replicate k 0) = 0
    rw [show st1 0 0 = 0 by decide]
    exact rm_nil0 k
theorem md_id {l : List Nat} (h : ∀ x ∈ l, x < 32) : md l = l := by
  unfold md
  conv => rhs; rw [← List.map_id l]
  exact List.map_congr_left fun x hx => Nat.mod_eq_of_lt (h x hx)
/-- Digits with their checksum have the remainder 1. -/
theorem good (p : ByteArray) (d : List Nat) (hd : ∀ x ∈ d, x < 32) : rm (rm 1 (ex p)) (d ++ ck p d) = 1 := by
  have hex : ∀ x ∈ ex p, x < 32 := by
    intro x hx
    simp only [ex, List.mem_append, List.mem_singleton] at hx
    rcases hx with (hx | hx) | hx
    · exact hi_lt p x hx
    · omega
    · exact lo_lt p x hx
  have hS : rm (rm 1 (ex p)) d < 2 ^ 30 := rm_lt _ _ (rm_lt _ _ (by decide) (all30 hex)) (all30 hd)
  have hz : rm (rm (rm 1 (ex p)) d) (List.replicate 6 0) < 2 ^ 30 := rm_lt _ _ hS (by simp)
  have hck : ck p d = six (rm (rm (rm 1 (ex p)) d) (List.replicate 6 0) ^^^ 1) := by
    unfold ck; rw [md_id hd, rm_app, rm_app]
  rw [rm_app, hck]
  generalize hr : rm (rm (rm 1 (ex p)) d) (List.replicate 6 0) ^^^ 1 = r
  have hr30 : r < 2 ^ 30 := by rw [← hr]; exact Nat.xor_lt_two_pow hz (by decide)
  have hx := rm_xor (List.replicate 6 0) (six r) (rm (rm 1 (ex p)) d) 0 rfl
  have e1 : xl (List.replicate 6 0) (six r) = six r := by
    simp only [List.replicate, six, xl, Nat.zero_xor]
  rw [e1, Nat.xor_zero, pack r hr30] at hx
  rw [hx, ← hr, ← Nat.xor_assoc, Nat.xor_self, Nat.zero_xor]
theorem acc {p : ByteArray} {ds : List Nat} (hd : ∀ x ∈ ds, x < 32) (h : ck p (ds.take (ds.length - 6)) = ds.drop (ds.length - 6)) : rm (rm 1 (ex p)) ds = 1 := by
  have := good p (ds.take (ds.length - 6)) (fun x hx => hd x (List.mem_of_mem_take hx))
  rwa [h, List.take_append_drop] at this
/-! ### Nothing but 0 leaves 0 -/
theorem xor_z {a b : Nat} (h : a ^^^ b = 0) : a = b := by
  have h2 : (a ^^^ b) ^^^ b = 0 ^^^ b := by rw [h]
  rwa [Nat.xor_assoc, Nat.xor_self, Nat.xor_zero, Nat.zero_xor] at h2
theorem gx_low : ∀ t : Nat, t < 32 → gx t % 32 = 0 → t = 0 := by decide +kernel
theorem st1_zero {c : Nat} (hc : c < 2 ^ 30) (h : st1 c 0 = 0) : c = 0 := by
  unfold st1 at h
  rw [Nat.xor_zero] at h
  replace h := xor_z h
  have ht : c / 2 ^ 25 < 32 := by omega
  have h2 : gx (c / 2 ^ 25) % 32 = 0 := by rw [← h]; omega
  have h3 := gx_low _ ht h2
  rw [h3, gx0] at h
  omega
theorem rm_zero : ∀ (k c : Nat), c < 2 ^ 30 → rm c (List.replicate k 0) = 0 → c = 0
  | 0, c, _, h => h
  | k + 1, c, hc, h => by
    rw [List.replicate_succ] at h
    exact st1_zero hc (rm_zero k (st1 c 0) (st1_lt c 0 (by decide)) h)
theorem xl_self : ∀ l : List Nat, xl l l = List.replicate l.length 0
  | [] => rfl
  | x :: l => by simp only [xl, Nat.xor_self, xl_self l, List.length_cons, List.replicate_succ]
theorem xl_app : ∀ (a b c d : List Nat), a.length = b.length → xl (a ++ c) (b ++ d) = xl a b ++ xl c d
  | [], [], c, d, _ => rfl
  | x :: a, y :: b, c, d, h => by simp only [List.cons_append, xl, xl_app a b c d (by simpa using h)]
  | [], _ :: _, _, _, h => by simp at h
  | _ :: _, [], _, _, h => by simp at h
theorem xor_ne {x y : Nat} (h : x ≠ y) : x ^^^ y ≠ 0 := fun hz => h (xor_z hz)
theorem xor32 {x y : Nat} (hx : x < 32) (hy : y < 32) : x ^^^ y < 32 := Nat.xor_lt_two_pow (n := 5) hx hy
theorem differ {p : ByteArray} {xs ys : List Nat} (hl : xs.length = ys.length) (h1 : rm (rm 1 (ex p)) xs = 1) (h2 : rm (rm 1 (ex p)) ys = 1) : rm 0 (xl xs ys) = 0 := by
  have := rm_xor xs ys (rm 1 (ex p)) (rm 1 (ex p)) hl
  rwa [Nat.xor_self, h1, h2, Nat.xor_self] at this
theorem no_one {p : ByteArray} {A B : List Nat} {x y : Nat} (hx : x < 32) (hy : y < 32) (hne : x ≠ y) (h1 : rm (rm 1 (ex p)) (A ++ x :: B) = 1) (h2 : rm (rm 1 (ex p)) (A ++ y :: B) = 1) : False := by
  have h := differ (by simp) h1 h2
  rw [xl_app _ _ _ _ rfl, xl_self, rm_app, rm_nil0] at h
  simp only [xl, xl_self] at h
  have h3 : rm (st1 0 (x ^^^ y)) (List.replicate B.length 0) = 0 := h
  rw [st1_small (by decide) (xor32 hx hy), Nat.zero_mul, Nat.zero_add] at h3
  exact xor_ne hne (rm_zero _ _ (lt30 (xor32 hx hy)) h3)
theorem no_two {p : ByteArray} {A B : List Nat} {x y : Nat} (hx : x < 32) (hy : y < 32) (hne : x ≠ y) (h1 : rm (rm 1 (ex p)) (A ++ x :: y :: B) = 1) (h2 : rm (rm 1 (ex p)) (A ++ y :: x :: B) = 1) : False := by
  have h := differ (by simp) h1 h2
  rw [xl_app _ _ _ _ rfl, xl_self, rm_app, rm_nil0] at h
  simp only [xl, xl_self] at h
  have h3 : rm (st1 (st1 0 (x ^^^ y)) (y ^^^ x)) (List.replicate B.length 0) = 0 := h
  have hw := xor32 hx hy
  rw [st1_small (by decide) hw, Nat.zero_mul, Nat.zero_add, Nat.xor_comm y x, st1_small (Nat.lt_trans hw (by decide)) hw] at h3
  have := rm_zero _ _ (by omega) h3
  exact xor_ne hne (by omega)
/-- A change is not accepted. -/
theorem decD_bad {p : ByteArray} {ds : List Nat} (h : ck p (ds.take (ds.length - 6)) ≠ ds.drop (ds.length - 6)) : decD p ds = ([], 241) := by unfold decD; rw [if_neg h]
theorem cw_good (p : ByteArray) (b : List Int) : rm (rm 1 (ex p)) (cw p b) = 1 := good p (dn b) (dn_lt b)
theorem bad_one (p : ByteArray) (b : List Int) {A B : List Nat} {x y : Nat} (hc : cw p b = A ++ x :: B) (hy : y < 32) (hne : x ≠ y) : decD p (A ++ y :: B) = ([], 241) := by
  refine decD_bad fun h => ?_
  have hlt := cw_lt p b
  rw [hc] at hlt
  have hg := cw_good p b
  rw [hc] at hg
  refine no_one (hlt x (by simp)) hy hne hg (acc (fun z hz => ?_) h)
  simp only [List.mem_append, List.mem_cons] at hz
  rcases hz with hz | rfl | hz
  · exact hlt z (by simp [hz])
  · exact hy
  · exact hlt z (by simp [hz])
theorem bad_two (p : ByteArray) (b : List Int) {A B : List Nat} {x y : Nat} (hc : cw p b = A ++ x :: y :: B) (hne : x ≠ y) : decD p (A ++ y :: x :: B) = ([], 241) := by
  refine decD_bad fun h => ?_
  have hlt := cw_lt p b
  rw [hc] at hlt
  have hg := cw_good p b
  rw [hc] at hg
  refine no_two (hlt x (by simp)) (hlt y (by simp)) hne hg (acc (fun z hz => ?_) h)
  simp only [List.mem_append, List.mem_cons] at hz
  rcases hz with hz | rfl | rfl | hz
  · exact hlt z (by simp [hz])
  · exact hlt z (by simp)
  · exact hlt z (by simp)
  · exact hlt z (by simp [hz])
end Go.Proofs.YtidkaiebgjbekaaDoor
