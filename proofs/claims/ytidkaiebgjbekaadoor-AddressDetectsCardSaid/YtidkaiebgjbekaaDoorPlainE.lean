import Derived.Test.YtidkaiebgjbekaaDoorPlainS2
set_option linter.unusedSimpArgs false
set_option linter.unusedVariables false
namespace Go.Proofs.YtidkaiebgjbekaaDoor
open Go Go.Vm

/-! ### Texts -/
def mkS (l : List Nat) : ByteArray := strOf (iN l)
theorem ba_ext {a b : ByteArray} (h : a.data.toList = b.data.toList) : a = b := by
  cases a with | mk x => cases b with | mk y => cases x; cases y; simp_all
theorem strOf_data_aux : ∀ (l : List Int) (b : ByteArray), (l.foldl (fun r n => r.push (UInt8.ofNat n.toNat)) b).data.toList = b.data.toList ++ l.map fun n => UInt8.ofNat n.toNat
  | [], b => by simp
  | x :: l, b => by rw [List.foldl_cons, strOf_data_aux l]; cases b; simp [ByteArray.push]
theorem mkS_data (l : List Nat) : (mkS l).data.toList = l.map UInt8.ofNat := by
  unfold mkS strOf
  rw [strOf_data_aux]
  simp [iN, List.map_map, Function.comp_def]
theorem mkS_bs (s : ByteArray) : mkS (bs s) = s := by
  apply ba_ext
  rw [mkS_data]
  simp [bs, List.map_map, Function.comp_def]
theorem ba_app (a b : ByteArray) : (a ++ b).data.toList = a.data.toList ++ b.data.toList := by
  simp
theorem mkS_app (a b : List Nat) : mkS (a ++ b) = mkS a ++ mkS b := by
  apply ba_ext
  rw [ba_app, mkS_data, mkS_data, mkS_data, List.map_append]
theorem bs_app (a b : ByteArray) : bs (a ++ b) = bs a ++ bs b := by unfold bs; rw [ba_app, List.map_append]
theorem bs_mkS {l : List Nat} (h : ∀ x ∈ l, x < 256) : bs (mkS l) = l := by
  unfold bs
  rw [mkS_data, List.map_map]
  conv => rhs; rw [← List.map_id l]
  refine List.map_congr_left fun x hx => ?_
  simp only [Function.comp, id]
  exact UInt8.toNat_ofNat_of_lt' (h x hx)
theorem bytesOf_bs (s : ByteArray) : bytesOf s = iN (bs s) := by unfold bytesOf iN bs; rw [List.map_map]; rfl
theorem strOf_iN (l : List Nat) : strOf (iN l) = mkS l := rfl
theorem mkS_size (l : List Nat) : (mkS l).size = l.length := by unfold mkS; rw [strOf_size, iN_len]
theorem size_app (a b : ByteArray) : (a ++ b).size = a.size + b.size := by rw [← bs_len, bs_app, List.length_append, bs_len, bs_len]
theorem stb_ok {s : ByteArray} (h : s.size ≤ 100000) : stb s = some (iN (bs s)) := by
  have := lim_big
  unfold stb; rw [if_pos (by omega), bytesOf_bs]
theorem cat_ok {a b : ByteArray} (h : a.size + b.size ≤ 100000) : cat a b = some (a ++ b) := by
  have := lim_big
  unfold cat; rw [if_pos (by omega)]
/-! ### The characters -/
abbrev CH : ByteArray := ⟨#[113, 112, 122, 114, 121, 57, 120, 56, 103, 102, 50, 116, 118, 100, 119, 48, 115, 51, 106, 110, 53, 52, 107, 104, 99, 101, 54, 109, 117, 97, 55, 108]⟩
abbrev ONE : ByteArray := ⟨#[49]⟩
def ch (d : Nat) : Nat := (bs CH).getD d 0
theorem CH_len : (bs CH).length = 32 := rfl
theorem ch_idx {d : Nat} (hd : d < 32) : sidx CH (d : Int) = some ((ch d : Nat) : Int) := by
  rw [sidx_eq CH (by rw [CH_len]; exact hd)]
  unfold ch
  rw [List.getD_eq_getElem?_getD, List.getElem?_eq_getElem (by rw [CH_len]; exact hd)]; rfl
theorem ch_lt : ∀ d : Nat, d < 32 → ch d < 128 := by decide +kernel
theorem ch_sub' : ∀ d : Nat, d < 32 → ssub CH (d : Int) ((d + 1 : Nat) : Int) = some (mkS [ch d]) := by decide +kernel
theorem ch_sub {d : Nat} (hd : d < 32) : ssub CH (d : Int) (IntKind.u8.wrap ((d : Int) + 1)) = some (mkS [ch d]) := by
  rw [wu8 (by omega) (by omega), ← ch_sub' d hd]; rfl
/-! ### Encode -/
theorem Encode_L2_eq (N : Nat) (ds : List Nat) (hd : ∀ x ∈ ds, x < 32) (hl : ds.length ≤ 1000) : ∀ (m j : Nat) (l : List Nat), l.length ≤ 5000 + j → ds.length - j < m → j ≤ ds.length → address_Encode_L2 N (iN ds) m (j : Int) (iN l) = some (iN (l ++ (ds.drop j).map ch))
  | 0, j, l, _, hm, _ => by omega
  | m + 1, j, l, hll, hm, hj => by
    rw [address_Encode_L2, iN_len]
    by_cases hjl : j < ds.length
    · simp only [dT hjl, if_true, iN_idx ds hjl, Option.bind_some, ch_idx (hd _ (List.getElem_mem hjl)), app1 (l := l) (x := ch ds[j]) (by omega), i1 (show j ≤ 100000 by omega)]
      rw [Encode_L2_eq N ds hd hl m (j + 1) (l ++ [ch ds[j]]) (by simp; omega) (by omega) (by omega), List.drop_eq_getElem_cons hjl, List.map_cons, List.append_assoc]
      rfl
    · have : ds.drop j = [] := List.drop_eq_nil_of_le (by omega)
      simp only [dF hjl, Bool.false_eq_true, if_false, this, List.map_nil, List.append_nil]
theorem rEncode_L2_eq (N : Nat) (ds : List Nat) (hd : ∀ x ∈ ds, x < 32) (hl : ds.length ≤ 1000) : ∀ (m j : Nat) (s : ByteArray), s.size ≤ 5000 + j → ds.length - j < m → j ≤ ds.length → ref27_Encode_L2 N (iN ds) m s (j : Int) = some (s ++ mkS ((ds.drop j).map ch))
  | 0, j, l, _, hm, _ => by omega
  | m + 1, j, s, hll, hm, hj => by
    rw [ref27_Encode_L2, iN_len]
    by_cases hjl : j < ds.length
    · have hsz : s.size + (mkS [ch ds[j]]).size ≤ 100000 := by rw [mkS_size]; simp; omega
      simp only [dT hjl, if_true, iN_idx ds hjl, Option.bind_some, ch_sub (hd _ (List.getElem_mem hjl)), cat_ok hsz, i1 (show j ≤ 100000 by omega)]
      rw [rEncode_L2_eq N ds hd hl m (j + 1) (s ++ mkS [ch ds[j]]) (by rw [size_app, mkS_size]; simp; omega) (by omega) (by omega), List.drop_eq_getElem_cons hjl]
      rw [List.map_cons, show ch ds[j] :: (ds.drop (j + 1)).map ch = [ch ds[j]] ++ (ds.drop (j + 1)).map ch from rfl, mkS_app, ByteArray.append_assoc]
    · have : ds.drop j = [] := List.drop_eq_nil_of_le (by omega)
      simp only [dF hjl, Bool.false_eq_true, if_false, this, List.map_nil]
      congr 1
      apply ba_ext
      rw [ba_app]; simp [mkS_data]
/-- The digits of bytes. -/
def dn (b : List Int) : List Nat := (digits b).map Int.toNat
theorem dn_iN (b : List Int) : iN (dn b) = digits b := (byt_iN (digits_byt b)).1
theorem dn_lt (b : List Int) : ∀ x ∈ dn b, x < 32 := by
  intro x hx
  simp only [dn, digits, Dg, List.map_map, List.mem_map, List.mem_range] at hx
  obtain ⟨i, _, rfl⟩ := hx
  simp only [Function.comp, Int.toNat_natCast]
  exact nb_lt _ _ 5
theorem dn_lt' (b : List Int) : ∀ x ∈ dn b, x < 256 := fun x hx => Nat.lt_trans (dn_lt b x hx) (by decide)
theorem dn_len (b : List Int) : (dn b).length = (8 * b.length + 4) / 5 := by simp [dn, digits_len]
theorem six_lt (r : Nat) : ∀ x ∈ six r, x < 32 := by
  intro x hx
  simp only [six, dg, List.mem_cons, List.not_mem_nil, or_false] at hx
  omega
/-- The digits behind the 1. -/
def cw (p : ByteArray) (b : List Int) : List Nat := dn b ++ ck p (dn b)
theorem cw_lt (p : ByteArray) (b : List Int) : ∀ x ∈ cw p b, x < 32 := by
  intro x hx
  simp only [cw, List.mem_append] at hx
  exact hx.elim (dn_lt b x) (six_lt _ x)
theorem cw_len (p : ByteArray) (b : List Int) : (cw p b).length = (8 * b.length + 4) / 5 + 6 := by simp [cw, dn_len, ck, six]
/-- The address. -/
def addr (p : ByteArray) (b : List Int) : ByteArray := p ++ ONE ++ mkS ((cw p b).map ch)
def enc27 (r : Bool) (p : ByteArray) (b : List Int) : ByteArray × Int := if r then (if 100 < b.length then (.empty, 4) else (addr p b, 0)) else (.empty, 270)
theorem one_size : ONE.size = 1 := rfl
theorem Encode_both (N : Nat) (hN : 70000 ≤ N) (p : ByteArray) (hp : p.size ≤ 1000) (b : List Int) (hb : Byt b) (hl : b.length ≤ 500) (r : Bool) (h1 : address_Prefix N p = some r) (h2 : ref27_Prefix N p = some r) :
    address_Encode N p b = some (enc27 r p b) ∧ ref27_Encode N p b = some (enc27 r p b) := by
  unfold address_Encode ref27_Encode enc27
  rw [h1, h2]
  simp only [Option.bind_some]
  cases r with
  | false => simp
  | true =>
    simp only [Bool.not_true, Bool.false_eq_true, if_false, if_true]
    by_cases h3 : 100 < b.length
    · have e3 : decide (100 < (b.length : Int)) = true := by simp; omega
      simp only [e3, h3, if_true, and_self]
    · have e3 : decide (100 < (b.length : Int)) = false := by simp; omega
      have hln := dn_len b
      have k1 := Checksum_eq N hN p hp (dn b) (dn_lt' b) (by omega)
      have k2 := rChecksum_eq N hN p hp (dn b) (dn_lt' b) (by omega)
      rw [dn_iN] at k1 k2
      have hlim := lim_big
      have ka : app 1 (digits b) (iN (ck p (dn b))) = some (iN (cw p b)) := by
        rw [app_ok (by rw [digits_len, iN_len]; simp [ck, six]; omega), ← dn_iN, iN_app]; rfl
      have hcl := cw_len p b
      have kc : cat p ONE = some (p ++ ONE) := cat_ok (by rw [one_size]; omega)
      have ks : stb (p ++ ONE) = some (iN (bs (p ++ ONE))) := stb_ok (by rw [size_app, one_size]; omega)
      have l1 := Encode_L2_eq N (cw p b) (cw_lt p b) (by omega) N 0 (bs (p ++ ONE)) (by rw [bs_len, size_app, one_size]; omega) (by omega) (by omega)
      have l2 := rEncode_L2_eq N (cw p b) (cw_lt p b) (by omega) N 0 (p ++ ONE) (by rw [size_app, one_size]; omega) (by omega) (by omega)
      rw [show ((0 : Nat) : Int) = 0 from rfl, List.drop_zero] at l1 l2
      simp only [e3, h3, if_false, Bool.false_eq_true, Convert_eq N hN b hb hl, ref27_Convert_eq N hN b hb hl, Option.bind_some, k1, k2, arr6, kc, ks, ka, l1, l2, address_Encode_J1, ref27_Encode_J1, strOf_iN, mkS_app, mkS_bs, addr, and_self]
/-! ### The law -/
theorem Encodes_L3 (N : Nat) (hN : 70000 ≤ N) (s x : ByteArray) (hs : s.size ≤ 1000) (hx : x.size ≤ 1000) (b : List Int) (hb : Byt b) (hl : b.length ≤ 500) : ∀ (m j : Nat), 2 - j < m → j ≤ 2 → law27_AddressEncodes_L3 N s b x m (j : Int) = some (.brk ())
  | 0, j, hm, _ => by omega
  | m + 1, j, hm, hj => by
    rw [law27_AddressEncodes_L3]
    by_cases hj2 : j < 2
    · have e1 : decide ((j : Int) < (2 : Int)) = true := by simp; omega
      have hp : ∃ p, idx [s, x] (j : Int) = some p ∧ p.size ≤ 1000 := by
        match j, hj2 with
        | 0, _ => exact ⟨s, rfl, hs⟩
        | 1, _ => exact ⟨x, rfl, hx⟩
      obtain ⟨p, hp, hps⟩ := hp
      obtain ⟨r, h1, h2⟩ := Prefix_eq N hN p hps
      obtain ⟨k1, k2⟩ := Encode_both N hN p hps b hb hl r h1 h2
      have ih := Encodes_L3 N hN s x hs hx b hb hl m (j + 1) (by omega) (by omega)
      simp only [e1, if_true, hp, Option.bind_some, k1, k2, beq_self_eq_true, Bool.not_true, Bool.false_eq_true, if_false, law27_AddressEncodes_J4, bne_self_eq_false, i1 (show j ≤ 100000 by omega), ih]
    · have e1 : decide ((j : Int) < (2 : Int)) = false := by simp; omega
      simp only [e1, Bool.false_eq_true, if_false]
theorem AddressEncodes_true (s : ByteArray) (vn : Int) (b : List Int) (hb : Byt b) : law27_AddressEncodes NN s vn b = some true := by
  unfold law27_AddressEncodes
  rw [sane_true]
  simp only [Option.bind_some, Bool.not_true, Bool.false_eq_true, if_false]
  by_cases h1 : 30 < s.size
  · have e1 : decide (30 < (s.size : Int)) = true := by simp; omega
    simp only [e1, if_true, law27_AddressEncodes_J1]
  · have e1 : decide (30 < (s.size : Int)) = false := by simp; omega
    simp only [e1, Bool.false_eq_true, if_false, law27_AddressEncodes_J1]
    by_cases h2 : 130 < b.length
    · have e2 : decide (130 < (b.length : Int)) = true := by simp; omega
      simp only [e2, if_true]
    · have e2 : decide (130 < (b.length : Int)) = false := by simp; omega
      simp only [e2, Bool.false_eq_true, if_false]
      obtain ⟨x, hx, _, hx1, _⟩ := prefix_eq vn
      have h3 := Encodes_L3 NN (Nat.le_refl _) s x (by omega) (by omega) b hb (by omega) NN 0 (by decide) (by omega)
      rw [show ((0 : Nat) : Int) = 0 from rfl] at h3
      simp only [hx, Option.bind_some, h3, law27_AddressEncodes_J2]
end Go.Proofs.YtidkaiebgjbekaaDoor
