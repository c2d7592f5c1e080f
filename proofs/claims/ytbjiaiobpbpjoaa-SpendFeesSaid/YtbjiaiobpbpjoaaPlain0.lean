import Derived.Test.YtbjiaiobpbpjoaaVmBrw
set_option linter.unusedSimpArgs false
set_option linter.unusedVariables false
namespace Go.Vm
open Go

/-! ### Plain facts on the words of the shallow functions -/
theorem wrap_u {k : IntKind} (hk : k.signed = false) (n : Int) : k.wrap n = n % 2 ^ k.bits := by simp [IntKind.wrap, hk]
theorem bits_and_nat {k : IntKind} (hk : k.signed = false) (a b : Nat) (ha : a < 2 ^ k.bits) (hb : b < 2 ^ k.bits) : bits .and k (a : Int) (b : Int) = ((a &&& b : Nat) : Int) := by
  have hab : a &&& b < 2 ^ k.bits := Nat.and_lt_two_pow a hb
  simp only [bits, wrap_u hk, BitVec.toNat_and, BitVec.toNat_ofInt]
  have e1 : ((a : Int) % ((2 ^ k.bits : Nat) : Int)).toNat = a := by rw [← Int.natCast_emod, Int.toNat_natCast, Nat.mod_eq_of_lt ha]
  have e2 : ((b : Int) % ((2 ^ k.bits : Nat) : Int)).toNat = b := by rw [← Int.natCast_emod, Int.toNat_natCast, Nat.mod_eq_of_lt hb]
  rw [e1, e2]
  rw [show (2 : Int) ^ k.bits = ((2 ^ k.bits : Nat) : Int) by simp, ← Int.natCast_emod, Nat.mod_eq_of_lt hab]
theorem bits_or_nat {k : IntKind} (hk : k.signed = false) (a b : Nat) (ha : a < 2 ^ k.bits) (hb : b < 2 ^ k.bits) : bits .or k (a : Int) (b : Int) = ((a ||| b : Nat) : Int) := by
  have hab : a ||| b < 2 ^ k.bits := Nat.or_lt_two_pow ha hb
  simp only [bits, wrap_u hk, BitVec.toNat_or, BitVec.toNat_ofInt]
  have e1 : ((a : Int) % ((2 ^ k.bits : Nat) : Int)).toNat = a := by rw [← Int.natCast_emod, Int.toNat_natCast, Nat.mod_eq_of_lt ha]
  have e2 : ((b : Int) % ((2 ^ k.bits : Nat) : Int)).toNat = b := by rw [← Int.natCast_emod, Int.toNat_natCast, Nat.mod_eq_of_lt hb]
  rw [e1, e2]
  rw [show (2 : Int) ^ k.bits = ((2 ^ k.bits : Nat) : Int) by simp, ← Int.natCast_emod, Nat.mod_eq_of_lt hab]
theorem bits_xor_nat {k : IntKind} (hk : k.signed = false) (a b : Nat) (ha : a < 2 ^ k.bits) (hb : b < 2 ^ k.bits) : bits .xor k (a : Int) (b : Int) = ((a ^^^ b : Nat) : Int) := by
  have hab : a ^^^ b < 2 ^ k.bits := Nat.xor_lt_two_pow ha hb
  simp only [bits, wrap_u hk, BitVec.toNat_xor, BitVec.toNat_ofInt]
  have e1 : ((a : Int) % ((2 ^ k.bits : Nat) : Int)).toNat = a := by rw [← Int.natCast_emod, Int.toNat_natCast, Nat.mod_eq_of_lt ha]
  have e2 : ((b : Int) % ((2 ^ k.bits : Nat) : Int)).toNat = b := by rw [← Int.natCast_emod, Int.toNat_natCast, Nat.mod_eq_of_lt hb]
  rw [e1, e2]
  rw [show (2 : Int) ^ k.bits = ((2 ^ k.bits : Nat) : Int) by simp, ← Int.natCast_emod, Nat.mod_eq_of_lt hab]
theorem shr_nat {k : IntKind} (a b : Nat) (ha : a < 2 ^ k.bits) : shr k (a : Int) (b : Int) = some ((a / 2 ^ b : Nat) : Int) := by
  unfold shr
  rw [if_neg (by omega)]
  congr 1
  rw [Int.toNat_natCast]
  have : (2 : Int) ^ min b k.bits = ((2 ^ min b k.bits : Nat) : Int) := by simp
  rw [this, Int.fdiv_eq_ediv_of_nonneg _ (Int.natCast_nonneg _), ← Int.natCast_ediv]
  congr 1
  rcases Nat.le_total b k.bits with hb | hb
  · rw [Nat.min_eq_left hb]
  · rw [Nat.min_eq_right hb, Nat.div_eq_of_lt ha, Nat.div_eq_of_lt (Nat.lt_of_lt_of_le ha (Nat.pow_le_pow_right (by omega) hb))]
theorem shl_nat {k : IntKind} (hk : k.signed = false) (a b : Nat) : shl k (a : Int) (b : Int) = some ((a * 2 ^ b % 2 ^ k.bits : Nat) : Int) := by
  unfold shl
  rw [if_neg (by omega), wrap_u hk]
  congr 1
  rw [Int.toNat_natCast]
  have e : (2 : Int) ^ min b k.bits = ((2 ^ min b k.bits : Nat) : Int) := by simp
  rw [e, show (2 : Int) ^ k.bits = ((2 ^ k.bits : Nat) : Int) by simp, ← Int.natCast_mul, ← Int.natCast_emod]
  congr 1
  rcases Nat.le_total b k.bits with hb | hb
  · rw [Nat.min_eq_left hb]
  · rw [Nat.min_eq_right hb, Nat.mul_mod_left]
    obtain ⟨c, rfl⟩ := Nat.exists_eq_add_of_le hb
    rw [Nat.pow_add, ← Nat.mul_assoc, Nat.mul_right_comm, Nat.mul_mod_left]
theorem idx_nat {α : Type} (l : List α) (i : Nat) : idx l (i : Int) = l[i]? := by simp [idx]
theorem idx_lt {α : Type} (l : List α) {i : Nat} (h : i < l.length) : idx l (i : Int) = some l[i] := by rw [idx_nat, List.getElem?_eq_getElem h]
theorem app_ok {α : Type} {by_ : Nat} {l m : List α} (h : (l.length + m.length) * by_ ≤ lim) : app by_ l m = some (l ++ m) := by simp [app, h]
theorem mks_ok {α : Type} {by_ : Nat} {z : α} {n : Nat} (h : n * by_ ≤ lim) : mks by_ z (n : Int) = some (List.replicate n z) := by
  simp only [mks, Int.toNat_natCast]
  rw [if_pos ⟨by omega, h⟩]
theorem cpy_all {α : Type} {l m : List α} (h : l.length = m.length) : cpy l m = m := by
  unfold cpy; rw [h, List.take_of_length_le (Nat.le_refl _), List.drop_eq_nil_of_le (by omega)]; simp
theorem tdiv_nat (a b : Nat) : Int.tdiv (a : Int) (b : Int) = ((a / b : Nat) : Int) := by rw [Int.tdiv_eq_ediv_of_nonneg (by omega)]; simp
theorem tmod_nat (a b : Nat) : Int.tmod (a : Int) (b : Int) = ((a % b : Nat) : Int) := by rw [Int.tmod_eq_emod_of_nonneg (by omega)]; simp
/-- Numbers of one byte. -/
def Byt (l : List Int) : Prop := ∀ x ∈ l, 0 ≤ x ∧ x < 256
theorem Byt.append {l m : List Int} (h : Byt l) (k : Byt m) : Byt (l ++ m) := fun x hx => (List.mem_append.1 hx).elim (h x) (k x)
theorem Byt.set {l : List Int} (h : Byt l) (i : Nat) {x : Int} (hx : 0 ≤ x ∧ x < 256) : Byt (l.set i x) := fun y hy => (List.mem_or_eq_of_mem_set hy).elim (h y) (fun e => e ▸ hx)
theorem Byt.get {l : List Int} (h : Byt l) {i : Nat} (hi : i < l.length) : ∃ n : Nat, n < 256 ∧ l[i] = (n : Int) := by
  obtain ⟨h1, h2⟩ := h l[i] (List.getElem_mem hi)
  exact ⟨l[i].toNat, by omega, by omega⟩
/-- A contract without local blocks is one of a pure function. -/
theorem Fn.toP {P : Program} {f : FuncId} {xs : List V} {r : V} (hc : Fn P f [] xs r []) : PFn P f xs r := by
  intro A w vs hA hGl hv
  refine (hc A [] w vs (HR.nil hA hGl) (hv.avoid (fun g _ hx => Xs_nil.1 hx))).mono fun v w' ⟨M', G, hr⟩ => ?_
  have hM : M' = [] := List.eq_nil_of_length_eq_zero G.hr.len
  subst hM
  exact ⟨G.ext.mono fun g _ hl => by obtain ⟨b, B, hb, _⟩ := hl; simp at hb, hr.avoid (fun g _ hx => Xs_nil.2 hx)⟩
end Go.Vm
