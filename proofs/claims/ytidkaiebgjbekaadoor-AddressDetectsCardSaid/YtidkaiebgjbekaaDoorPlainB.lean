import Derived.Test.YtidkaiebgjbekaaDoorPlainD2
set_option linter.unusedSimpArgs false
set_option linter.unusedVariables false
namespace Go.Proofs.YtidkaiebgjbekaaDoor
open Go Go.Vm

/-! ### The bytes behind the digits of bytes -/
theorem bit_digits (b : List Int) : bit 5 (digits b) = bit 8 b := by
  funext x
  have hl := digits_len b
  by_cases hx : x < 5 * (digits b).length
  · have hq : x / 5 < (8 * b.length + 4) / 5 := by omega
    have hg : (digits b).getD (x / 5) 0 = ((nb (bit 8 b) (5 * (x / 5)) 5 : Nat) : Int) := by
      rw [getD_lt (by rw [hl]; exact hq)]
      exact Dg_get 5 (bit 8 b) hq
    have e : bit 5 (digits b) x = ((digits b).getD (x / 5) 0).toNat.testBit (5 - 1 - x % 5) := rfl
    rw [e, hg, Int.toNat_natCast, nb_testBit _ _ _ _ (by omega)]
    congr 1; omega
  · rw [bit_far 5 (by omega) _ _ (by omega), bit_far 8 (by omega) _ _ (by omega)]
theorem Dg_back (b : List Int) (hb : Byt b) : Dg 8 (bit 8 b) b.length = b := by
  apply List.ext_getElem
  · rw [Dg_len]
  · intro i h1 h2
    rw [Dg_get 8 (bit 8 b) h2]
    obtain ⟨n, hn, en⟩ := hb.get h2
    have hg : b.getD i 0 = (n : Int) := by rw [getD_lt h2, en]
    rw [bit_num 8 (by omega) b i (by rw [hg]; simpa using hn), hg, en]; rfl
theorem fiveB_digits (b : List Int) : fiveB (digits b) = true := by
  unfold fiveB
  rw [List.all_eq_true]
  intro x hx
  rw [← dn_iN] at hx
  simp only [iN, List.mem_map] at hx
  obtain ⟨y, hy, rfl⟩ := hx
  have := dn_lt b y hy
  simp; omega
theorem behind_digits (b : List Int) (hb : Byt b) : behind (digits b) = (b, 0) := by
  have hl := digits_len b
  unfold behind
  rw [fiveB_digits, if_pos rfl, bit_digits, hl]
  have h1 : 5 * ((8 * b.length + 4) / 5) / 8 = b.length := by omega
  rw [h1, nb_zero (fun j _ => bit_far 8 (by omega) b _ (by omega)), if_neg (by omega), Dg_back b hb]
/-! ### Texts that are addresses -/
theorem bs_inj {a b : ByteArray} (h : bs a = bs b) : a = b := by rw [← mkS_bs a, ← mkS_bs b, h]
theorem ch_dI : ∀ d : Nat, d < 32 → dI (ch d) = some d := by decide +kernel
theorem ch_low : ∀ d : Nat, d < 32 → isU (ch d) = false ∧ ch d < 256 := by decide +kernel
theorem digs_ch : ∀ {ds : List Nat}, (∀ x ∈ ds, x < 32) → digs (ds.map ch) = some ds
  | [], _ => rfl
  | d :: ds, h => by
    have ih := digs_ch (ds := ds) (fun x hx => h x (by simp [hx]))
    simp only [List.map_cons, digs, ch_dI d (h d (by simp)), ih]
/-- The text of a prefix and digits. -/
def txt (p : ByteArray) (ds : List Nat) : List Nat := bs (p ++ ONE) ++ ds.map ch
theorem addr_txt (p : ByteArray) (b : List Int) : bs (addr p b) = txt p (cw p b) := by
  unfold addr txt
  rw [bs_app, bs_mkS]
  intro x hx
  simp only [List.mem_map] at hx
  obtain ⟨d, hd, rfl⟩ := hx
  exact (ch_low d (cw_lt p b d hd)).2
theorem txt_lt (p : ByteArray) (ds : List Nat) (hd : ∀ x ∈ ds, x < 32) : ∀ x ∈ txt p ds, x < 256 := by
  intro x hx
  simp only [txt, List.mem_append, List.mem_map] at hx
  rcases hx with hx | ⟨d, hd', rfl⟩
  · exact bs_lt _ x hx
  · exact (ch_low d (hd d hd')).2
theorem txt_up (p : ByteArray) (hp : (bs p).all isL = true) (ds : List Nat) (hd : ∀ x ∈ ds, x < 32) : ∀ x ∈ txt p ds, isU x = false := by
  intro x hx
  simp only [txt, List.mem_append, List.mem_map, bs_app] at hx
  rcases hx with (hx | hx) | ⟨d, hd', rfl⟩
  · have := List.all_eq_true.1 hp x hx
    simp only [isL, Bool.and_eq_true, decide_eq_true_eq] at this
    simp [isU]; omega
  · have : x = 49 := by simpa [bs] using hx
    subst this; rfl
  · exact (ch_low d (hd d hd')).1
theorem low_id {x : Nat} (h : isU x = false) : low x = x := by
  unfold low
  rw [if_neg]
  intro hc
  simp [isU] at h
  omega
theorem txt_len (p : ByteArray) (ds : List Nat) : (txt p ds).length = p.size + 1 + ds.length := by
  unfold txt; rw [List.length_append, bs_len, size_app, one_size, List.length_map]
theorem decT_txt (p : ByteArray) (ds : List Nat) (hd : ∀ x ∈ ds, x < 32) (h6 : 6 ≤ ds.length) : decT p (mkS (txt p ds)) = decD p ds := by
  have hb := bs_mkS (txt_lt p ds hd)
  have hs : (mkS (txt p ds)).size = (p ++ ONE).size + ds.length := by rw [mkS_size, txt_len, size_app, one_size]
  have hl : (bs (p ++ ONE)).length = (p ++ ONE).size := bs_len _
  have hex : (mkS (txt p ds)).extract 0 (p ++ ONE).size = p ++ ONE := by
    apply bs_inj
    rw [bs_extract, hb, List.drop_zero, txt, ← hl, List.take_left]
  have hok : okP (p ++ ONE) (mkS (txt p ds)) = true := by unfold okP; rw [hex]; exact beq_self_eq_true _
  have hdr : (bs (mkS (txt p ds))).drop (p ++ ONE).size = ds.map ch := by rw [hb, txt, ← hl, List.drop_left]
  unfold decT
  rw [if_neg (by omega), hok, if_neg (by decide), if_neg (by omega), hdr, digs_ch hd]
theorem dec_txt (p : ByteArray) (hp : (bs p).all isL = true) (ds : List Nat) (hd : ∀ x ∈ ds, x < 32) (h6 : 6 ≤ ds.length) (h166 : ds.length ≤ 166) : dec27 p (mkS (txt p ds)) = decD p ds := by
  have hb := bs_mkS (txt_lt p ds hd)
  have hU := txt_up p hp ds hd
  have hany : (txt p ds).any isU = false := by
    rw [List.any_eq_false]
    intro x hx; rw [hU x hx]; decide
  have hmap : (txt p ds).map low = txt p ds := by
    conv => rhs; rw [← List.map_id (txt p ds)]
    exact List.map_congr_left fun x hx => low_id (hU x hx)
  unfold dec27 small27
  rw [hb, hany, hmap, if_neg (by rw [mkS_size, txt_len]; omega)]
  simp only [Bool.and_false, Bool.false_eq_true, if_false]
  exact decT_txt p ds hd h6
/-- Capital letters. -/
def up (x : Nat) : Nat := if isL x then x - 32 else x
theorem up_low {x : Nat} (h : isU x = false) : low (up x) = x ∧ isL (up x) = false := by
  unfold up
  cases hl : isL x with
  | true =>
    simp only [isL, Bool.and_eq_true, decide_eq_true_eq] at hl
    simp only [if_true]
    constructor
    · unfold low; rw [if_pos (by omega)]; omega
    · simp [isL]; omega
  | false => simp only [Bool.false_eq_true, if_false]; exact ⟨low_id h, hl⟩
theorem up_lt {x : Nat} (h : x < 256) : up x < 256 := by unfold up; split <;> omega
theorem dec_up (p : ByteArray) (hp : (bs p).all isL = true) (ds : List Nat) (hd : ∀ x ∈ ds, x < 32) (h6 : 6 ≤ ds.length) (h166 : ds.length ≤ 166) : dec27 p (mkS ((txt p ds).map up)) = decD p ds := by
  have hU := txt_up p hp ds hd
  have hb : bs (mkS ((txt p ds).map up)) = (txt p ds).map up := bs_mkS (by
    intro x hx
    simp only [List.mem_map] at hx
    obtain ⟨y, hy, rfl⟩ := hx
    exact up_lt (txt_lt p ds hd y hy))
  have hany : ((txt p ds).map up).any isL = false := by
    rw [List.any_eq_false]
    intro x hx
    simp only [List.mem_map] at hx
    obtain ⟨y, hy, rfl⟩ := hx
    rw [(up_low (hU y hy)).2]; decide
  have hmap : ((txt p ds).map up).map low = txt p ds := by
    rw [List.map_map]
    conv => rhs; rw [← List.map_id (txt p ds)]
    exact List.map_congr_left fun x hx => (up_low (hU x hx)).1
  unfold dec27 small27
  rw [hb, hany, hmap, if_neg (by rw [mkS_size, List.length_map, txt_len]; omega)]
  simp only [Bool.false_and, Bool.false_eq_true, if_false]
  exact decT_txt p ds hd h6
theorem decD_cw (p : ByteArray) (b : List Int) (hb : Byt b) : decD p (cw p b) = (b, 0) := by
  have h1 : (cw p b).length - 6 = (dn b).length := by rw [cw_len, dn_len]; omega
  have h2 : (cw p b).take (dn b).length = dn b := List.take_left
  have h3 : (cw p b).drop (dn b).length = ck p (dn b) := List.drop_left
  unfold decD
  rw [h1, h2, h3, if_pos rfl, dn_iN, behind_digits b hb]
/-! ### The law -/
theorem Back_law_L3 (N : Nat) (b : List Int) (p : ByteArray) (e : ByteArray × Int) (L : List Int) (hL : L.length ≤ 1000) : ∀ (B A : List Nat) (m : Nat), B.length < m → A.length + B.length = L.length → (∀ x ∈ B, x < 256) →
    law27_AddressBack_L3 N b p e L m ((A.length : Nat) : Int) (iN (A ++ B)) = some (iN (A ++ B.map up))
  | [], A, m, hm, hl, _ => by
    obtain ⟨m, rfl⟩ : ∃ q, m = q + 1 := ⟨m - 1, by omega⟩
    rw [law27_AddressBack_L3]
    have e1 : decide (((A.length : Nat) : Int) < (L.length : Int)) = false := by simp at hl ⊢; omega
    simp only [e1, Bool.false_eq_true, if_false, List.map_nil]
  | x :: B, A, m, hm, hl, hB => by
    obtain ⟨m, rfl⟩ : ∃ q, m = q + 1 := ⟨m - 1, by omega⟩
    simp only [List.length_cons] at hm hl
    rw [law27_AddressBack_L3]
    have e1 : decide (((A.length : Nat) : Int) < (L.length : Int)) = true := by simp; omega
    have ih := fun (y : Nat) => Back_law_L3 N b p e L hL B (A ++ [y]) m (by omega) (by simp; omega) (fun z hz => hB z (by simp [hz]))
    simp only [List.length_append, List.length_cons, List.length_nil, Nat.zero_add, List.append_assoc, List.cons_append, List.nil_append] at ih
    have hx := hB x (by simp)
    simp only [e1, if_true, idx_mid A B x rfl, Option.bind_some, List.map_cons]
    by_cases h1 : 97 ≤ x
    · have d1 : decide ((97 : Int) ≤ (x : Int)) = true := by simp; omega
      by_cases h2 : x ≤ 122
      · have d2 : decide ((x : Int) ≤ 122) = true := by simp; omega
        have u0 : up x = x - 32 := by unfold up isL; simp [h1, h2]
        have e2 : IntKind.u8.wrap ((x : Int) - 32) = ((x - 32 : Nat) : Int) := by rw [wu8 (by omega) (by omega)]; omega
        simp only [d1, d2, if_true, law27_AddressBack_J5, idx_mid A B x rfl, Option.bind_some, law27_AddressBack_J4, e2, Int.toNat_natCast, set_mid A B x (x - 32) rfl, i1 (show A.length ≤ 100000 by omega), ih, u0]
      · have d2 : decide ((x : Int) ≤ 122) = false := by simp; omega
        have u0 : up x = x := by unfold up isL; simp [h2]
        simp only [d1, d2, if_true, Bool.false_eq_true, if_false, law27_AddressBack_J5, law27_AddressBack_J4, i1 (show A.length ≤ 100000 by omega), ih, u0]
    · have d1 : decide ((97 : Int) ≤ (x : Int)) = false := by simp; omega
      have u0 : up x = x := by unfold up isL; simp [h1]
      simp only [d1, Bool.false_eq_true, if_false, law27_AddressBack_J5, law27_AddressBack_J4, i1 (show A.length ≤ 100000 by omega), ih, u0]
theorem fiveL (k : Nat) (hk : k < 5) : ∃ x, idx [(⟨#[108, 99]⟩ : ByteArray), ⟨#[97]⟩, ⟨#[97, 98, 99, 100, 101, 102, 103, 104, 105, 106]⟩, ⟨#[122]⟩, ⟨#[116, 108, 99]⟩] (k : Int) = some x ∧ (bs x).all isL = true := by
  match k, hk with
  | 0, _ => exact ⟨_, rfl, by decide⟩
  | 1, _ => exact ⟨_, rfl, by decide⟩
  | 2, _ => exact ⟨_, rfl, by decide⟩
  | 3, _ => exact ⟨_, rfl, by decide⟩
  | 4, _ => exact ⟨_, rfl, by decide⟩
theorem prefix_eq3 (vn : Int) : ∃ x, law27_prefix NN vn = some x ∧ 0 < x.size ∧ x.size ≤ 10 ∧ address_Prefix NN x = some true ∧ ref27_Prefix NN x = some true ∧ (bs x).all isL = true := by
  obtain ⟨x, h0, h1, h2, h3, h4⟩ := prefix_eq2 vn
  obtain ⟨k, hk, ek⟩ := Mod_eq NN vn 5 (by omega) (by omega)
  rw [show ((5 : Nat) : Int) = 5 from rfl] at ek
  obtain ⟨y, hy, hy1⟩ := fiveL k hk
  have : law27_prefix NN vn = some y := by simp only [law27_prefix, ek, Option.bind_some, hy]
  rw [h0] at this
  injection this with this
  subst this
  exact ⟨x, h0, h1, h2, h3, h4, hy1⟩
theorem AddressBack_true (vn : Int) (b : List Int) (hb : Byt b) : law27_AddressBack NN vn b = some true := by
  unfold law27_AddressBack
  rw [sane_true]
  simp only [Option.bind_some, Bool.not_true, Bool.false_eq_true, if_false]
  by_cases h2 : 100 < b.length
  · have e2 : decide (100 < (b.length : Int)) = true := by simp; omega
    simp only [e2, if_true]
  · have e2 : decide (100 < (b.length : Int)) = false := by simp; omega
    obtain ⟨p, hp, _, hp1, hp2, hp3, hp4⟩ := prefix_eq3 vn
    have hen := (Encode_both NN (Nat.le_refl _) p (by omega) b hb (by omega) true hp2 hp3).1
    have he : enc27 true p b = (addr p b, 0) := by unfold enc27; simp only [if_true, h2, if_false]
    rw [he] at hen
    have has := addr_size p b
    have hal : (iN (bs (addr p b))).length = (addr p b).size := by rw [iN_len, bs_len]
    have hcl := cw_len p b
    have l3 := Back_law_L3 NN b p (addr p b, 0) (iN (bs (addr p b))) (by rw [hal]; omega) (bs (addr p b)) [] NN (by rw [bs_len]; show _ < 70000; omega) (by simp [iN_len]) (bs_lt _)
    rw [show (([] : List Nat).length : Int) = 0 from rfl, List.nil_append, List.nil_append] at l3
    have hts : (mkS ((bs (addr p b)).map up)).size ≤ 1000 := by rw [mkS_size, List.length_map, bs_len]; omega
    have k1 := Decode_eq NN (Nat.le_refl _) p hp1 (addr p b) (by omega) hp2
    have k2 := Decode_eq NN (Nat.le_refl _) p hp1 (mkS ((bs (addr p b)).map up)) hts hp2
    have q1 : dec27 p (addr p b) = (b, 0) := by
      rw [← mkS_bs (addr p b), addr_txt, dec_txt p hp4 _ (cw_lt p b) (by omega) (by omega), decD_cw p b hb]
    have q2 : dec27 p (mkS ((bs (addr p b)).map up)) = (b, 0) := by
      rw [addr_txt, dec_up p hp4 _ (cw_lt p b) (by omega) (by omega), decD_cw p b hb]
    rw [q1] at k1
    rw [q2] at k2
    simp only [e2, Bool.false_eq_true, if_false, hp, Option.bind_some, hen, stb_ok (s := addr p b) (by omega), l3, law27_AddressBack_J1, k1, strOf_iN, k2, beq_self_eq_true, if_true, Same_self, law27_AddressBack_J2]
end Go.Proofs.YtidkaiebgjbekaaDoor
