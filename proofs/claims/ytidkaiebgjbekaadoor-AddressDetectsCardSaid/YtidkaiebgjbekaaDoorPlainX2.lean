import Derived.Test.YtidkaiebgjbekaaDoorPlainX
set_option linter.unusedSimpArgs false
set_option linter.unusedVariables false
namespace Go.Proofs.YtidkaiebgjbekaaDoor
open Go Go.Vm

/-! ### The law -/
theorem txt_mid (p : ByteArray) (A B : List Nat) (x : Nat) : txt p (A ++ x :: B) = (bs (p ++ ONE) ++ A.map ch) ++ ch x :: B.map ch := by
  unfold txt; simp
theorem ln (p : ByteArray) (A : List Nat) : (bs (p ++ ONE) ++ A.map ch).length = p.size + 1 + A.length := by
  rw [List.length_append, bs_len, size_app, one_size, List.length_map]
theorem Detects_J2 (N : Nat) (hN : 70000 ≤ N) (p : ByteArray) (hp1 : p.size ≤ 10) (hp2 : address_Prefix N p = some true) (hp4 : (bs p).all isL = true) (b : List Int) (hbl : b.length ≤ 60) (e : Int) (A B : List Nat) (x : Nat) (hc : cw p b = A ++ x :: B) (k : Nat) (hk : A.length = k) :
    law27_AddressDetects_J2 N p (addr p b, e) (k : Int) = some true := by
  have hcl := cw_len p b
  have has := addr_size p b
  have hlt := cw_lt p b
  have hcl' := hcl
  rw [hc, List.length_append, List.length_cons] at hcl'
  have hba : bs (addr p b) = (bs (p ++ ONE) ++ A.map ch) ++ ch x :: B.map ch := by rw [addr_txt, hc, txt_mid]
  have hQ := ln p A
  have e1 : IntKind.i64.wrap ((p.size : Int) + 1) = ((p.size + 1 : Nat) : Int) := i1 (by omega)
  have e2 : IntKind.i64.wrap (((p.size + 1 : Nat) : Int) + (k : Int)) = ((p.size + 1 + k : Nat) : Int) := by rw [w64 (by omega) (by omega)]; omega
  have e3 : IntKind.i64.wrap (((p.size + 1 + k : Nat) : Int) + 1) = ((p.size + 1 + k + 1 : Nat) : Int) := i1 (by omega)
  unfold law27_AddressDetects_J2
  have hst : stb (addr p b) = some (iN (bs (addr p b))) := stb_ok (by omega)
  simp only [hst, Option.bind_some, e1, e2, e3]
  rw [iN_len, bs_len]
  cases B with
  | nil =>
    simp only [List.length_nil] at hcl'
    rw [dF (by omega)]
    simp only [Bool.false_eq_true, if_false, law27_AddressDetects_J4, law27_AddressDetects_J3]
  | cons z C =>
    simp only [List.length_cons] at hcl'
    have hj : (bs (p ++ ONE) ++ A.map ch).length = p.size + 1 + k := by rw [hQ, hk]
    have hj1 : (bs (p ++ ONE) ++ A.map ch ++ [ch x]).length = p.size + 1 + k + 1 := by rw [List.length_append, hj]; rfl
    have hba2 : bs (addr p b) = (bs (p ++ ONE) ++ A.map ch ++ [ch x]) ++ ch z :: C.map ch := by rw [hba]; simp
    rw [dT (by omega)]
    have i0 : idx (iN (bs (addr p b))) ((p.size + 1 + k : Nat) : Int) = some ((ch x : Nat) : Int) := by rw [hba]; exact idx_mid _ _ _ hj
    have i2 : idx (iN (bs (addr p b))) ((p.size + 1 + k + 1 : Nat) : Int) = some ((ch z : Nat) : Int) := by rw [hba2]; exact idx_mid _ _ _ hj1
    simp only [if_true, i0, i2, Option.bind_some]
    by_cases hne : ch x = ch z
    · have hb : (((ch x : Nat) : Int) != ((ch z : Nat) : Int)) = false := by rw [hne]; exact bne_self_eq_false _
      rw [hb]
      simp only [law27_AddressDetects_J4, Bool.false_eq_true, if_false, law27_AddressDetects_J3]
    · have hb : (((ch x : Nat) : Int) != ((ch z : Nat) : Int)) = true := by rw [bne_iff_ne]; intro h; exact hne (by omega)
      rw [hb]
      have hxz : x ≠ z := fun h => hne (by rw [h])
      have s1 : (iN (bs (addr p b))).set (p.size + 1 + k) ((ch z : Nat) : Int) = iN ((bs (p ++ ONE) ++ A.map ch) ++ ch z :: (ch z :: C.map ch)) := by rw [hba]; exact set_mid _ _ _ _ hj
      have hm : (bs (p ++ ONE) ++ A.map ch) ++ ch z :: (ch z :: C.map ch) = (bs (p ++ ONE) ++ A.map ch ++ [ch z]) ++ ch z :: C.map ch := by simp
      have hj2 : (bs (p ++ ONE) ++ A.map ch ++ [ch z]).length = p.size + 1 + k + 1 := by rw [List.length_append, hj]; rfl
      have i3 : idx (iN ((bs (p ++ ONE) ++ A.map ch) ++ ch z :: (ch z :: C.map ch))) ((p.size + 1 + k + 1 : Nat) : Int) = some ((ch z : Nat) : Int) := by rw [hm]; exact idx_mid _ _ _ hj2
      have s2 : (iN ((bs (p ++ ONE) ++ A.map ch) ++ ch z :: (ch z :: C.map ch))).set (p.size + 1 + k + 1) ((ch x : Nat) : Int) = iN (txt p (A ++ z :: x :: C)) := by
        rw [hm, set_mid _ _ _ _ hj2, txt_mid]; simp
      have hd : ∀ y ∈ A ++ z :: x :: C, y < 32 := by
        intro y hy
        refine hlt y ?_
        rw [hc]
        simp only [List.mem_append, List.mem_cons] at hy ⊢
        rcases hy with hy | hy | hy | hy
        · exact .inl hy
        · exact .inr (.inr (.inl hy))
        · exact .inr (.inl hy)
        · exact .inr (.inr (.inr hy))
      have hln : (A ++ z :: x :: C).length = (cw p b).length := by rw [hc]; simp
      have hdec := Decode_eq N hN p hp1 (mkS (txt p (A ++ z :: x :: C))) (by rw [mkS_size, txt_len, hln]; omega) hp2
      rw [dec_txt p hp4 _ hd (by omega) (by omega), bad_two p b hc hxz] at hdec
      simp only [law27_AddressDetects_J4, if_true, e1, e2, e3, i0, i2, Option.bind_some, Int.toNat_natCast, s1, i3, s2, law27_AddressDetects_J5, strOf_iN, hdec]
      rfl
theorem AddressDetects_true (vn : Int) (b : List Int) (vat vby : Int) (hb : Byt b) : law27_AddressDetects NN vn b vat vby = some true := by
  unfold law27_AddressDetects
  rw [sane_true]
  simp only [Option.bind_some, Bool.not_true, Bool.false_eq_true, if_false]
  by_cases h2 : 60 < b.length
  · have e2 : decide (60 < (b.length : Int)) = true := by simp; omega
    simp only [e2, if_true]
  · have e2 : decide (60 < (b.length : Int)) = false := by simp; omega
    obtain ⟨p, hp, _, hp1, hp2, hp3, hp4⟩ := prefix_eq3 vn
    have hen := (Encode_both NN (Nat.le_refl _) p (by omega) b hb (by omega) true hp2 hp3).1
    have he : enc27 true p b = (addr p b, 0) := by
      have h3 : ¬ 100 < b.length := by omega
      unfold enc27; simp only [if_true, h3, if_false]
    rw [he] at hen
    have has := addr_size p b
    have hcl := cw_len p b
    have hlt := cw_lt p b
    have hal : (iN (bs (addr p b))).length = (addr p b).size := by rw [iN_len, bs_len]
    obtain ⟨k, hk, ek⟩ := Mod_eq NN vat (cw p b).length (by omega) (by omega)
    obtain ⟨y, hy, ey⟩ := Mod_eq NN vby 32 (by omega) (by omega)
    rw [show ((32 : Nat) : Int) = 32 from rfl] at ey
    have hc : cw p b = (cw p b).take k ++ (cw p b)[k] :: (cw p b).drop (k + 1) := by rw [← List.drop_eq_getElem_cons hk, List.take_append_drop]
    generalize hA : (cw p b).take k = A at hc
    generalize hB : (cw p b).drop (k + 1) = B at hc
    generalize hx : (cw p b)[k] = x at hc
    have hAk : A.length = k := by rw [← hA, List.length_take]; omega
    have e7 : IntKind.i64.wrap ((p.size : Int) + 7) = ((p.size + 7 : Nat) : Int) := by rw [w64 (by omega) (by omega)]; omega
    have e1 : IntKind.i64.wrap ((p.size : Int) + 1) = ((p.size + 1 : Nat) : Int) := i1 (by omega)
    have e3 : IntKind.i64.wrap (((addr p b).size : Int) - ((p.size + 1 : Nat) : Int)) = (((cw p b).length : Nat) : Int) := by rw [w64 (by omega) (by omega)]; omega
    have e4 : IntKind.i64.wrap (((p.size + 1 : Nat) : Int) + (k : Int)) = ((p.size + 1 + k : Nat) : Int) := by rw [w64 (by omega) (by omega)]; omega
    have hba : bs (addr p b) = (bs (p ++ ONE) ++ A.map ch) ++ ch x :: B.map ch := by rw [addr_txt, hc, txt_mid]
    have hj : (bs (p ++ ONE) ++ A.map ch).length = p.size + 1 + k := by rw [ln, hAk]
    have i0 : idx (iN (bs (addr p b))) ((p.size + 1 + k : Nat) : Int) = some ((ch x : Nat) : Int) := by rw [hba]; exact idx_mid _ _ _ hj
    have j2 := Detects_J2 NN (Nat.le_refl _) p hp1 hp2 hp4 b (by omega) 0 A B x hc k hAk
    have hst : stb (addr p b) = some (iN (bs (addr p b))) := stb_ok (by omega)
    have h0 : ((0 : Int) != 0) = false := rfl
    simp only [e2, Bool.false_eq_true, if_false, hp, Option.bind_some, hen, h0, e7, dF (show ¬ (addr p b).size < p.size + 7 by omega), law27_AddressDetects_J1, e1, e3, ek, hst, ey, ch_idx hy, e4, i0, j2]
    by_cases hne : ch x = ch y
    · have hb' : (((ch x : Nat) : Int) != ((ch y : Nat) : Int)) = false := by rw [hne]; exact bne_self_eq_false _
      rw [hb']; rfl
    · have hb' : (((ch x : Nat) : Int) != ((ch y : Nat) : Int)) = true := by rw [bne_iff_ne]; intro h; exact hne (by omega)
      have hxy : x ≠ y := fun h => hne (by rw [h])
      have s1 : (iN (bs (addr p b))).set (p.size + 1 + k) ((ch y : Nat) : Int) = iN (txt p (A ++ y :: B)) := by rw [hba, txt_mid]; exact set_mid _ _ _ _ hj
      have hd : ∀ z ∈ A ++ y :: B, z < 32 := by
        intro z hz
        rw [hc] at hlt
        simp only [List.mem_append, List.mem_cons] at hz
        rcases hz with hz | rfl | hz
        · exact hlt z (by simp [hz])
        · exact hy
        · exact hlt z (by simp [hz])
      have hln : (A ++ y :: B).length = (cw p b).length := by rw [hc]; simp
      have hdec := Decode_eq NN (Nat.le_refl _) p hp1 (mkS (txt p (A ++ y :: B))) (by rw [mkS_size, txt_len, hln]; omega) hp2
      rw [dec_txt p hp4 _ hd (by omega) (by omega), bad_one p b hc hy hxy] at hdec
      rw [hb']
      simp only [if_true, Int.toNat_natCast, s1, strOf_iN, hdec, Option.bind_some]
      rfl
end Go.Proofs.YtidkaiebgjbekaaDoor
