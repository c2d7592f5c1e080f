import Derived.Test.YtidkaiebgjbekaaDoorPlainD
set_option linter.unusedSimpArgs false
set_option linter.unusedVariables false
namespace Go.Proofs.YtidkaiebgjbekaaDoor
open Go Go.Vm

/-! ### Decode -/
theorem bs_extract (s : ByteArray) (a b : Nat) : bs (s.extract a b) = ((bs s).take b).drop a := by
  unfold bs
  rw [ByteArray.data_extract, Array.toList_extract, List.extract_eq_drop_take', List.map_drop, List.map_take]
theorem ssub_ok {s : ByteArray} {a b : Nat} (h1 : a ≤ b) (h2 : b ≤ s.size) : ssub s (a : Int) (b : Int) = some (s.extract a b) := by
  unfold ssub
  rw [if_pos ⟨by omega, by omega, by omega⟩, Int.toNat_natCast, Int.toNat_natCast]
def decD (p : ByteArray) (ds : List Nat) : List Int × Int := if ck p (ds.take (ds.length - 6)) = ds.drop (ds.length - 6) then behind (iN (ds.take (ds.length - 6))) else ([], 241)
def okP (q T : ByteArray) : Bool := (T.extract 0 q.size).toList == q.toList
def decT (p T : ByteArray) : List Int × Int :=
  if T.size < (p ++ ONE).size then ([], 270)
  else if okP (p ++ ONE) T = false then ([], 270)
  else if T.size - (p ++ ONE).size < 6 then ([], 1)
  else match digs ((bs T).drop (p ++ ONE).size) with
    | none => ([], 7)
    | some ds => decD p ds
def dec27 (p s : ByteArray) : List Int × Int := if p.size + 167 < s.size then ([], 4) else if (small27 s).2 = true then ([], 271) else decT p (small27 s).1
theorem iN_take (l : List Nat) (k : Nat) : (iN l).take k = iN (l.take k) := by simp [iN, List.map_take]
theorem iN_drop (l : List Nat) (k : Nat) : (iN l).drop k = iN (l.drop k) := by simp [iN, List.map_drop]
theorem iN_inj {l m : List Nat} : (iN l == iN m) = decide (l = m) := by
  by_cases h : l = m
  · subst h; simp
  · have : iN l ≠ iN m := by
      intro he
      apply h
      have := congrArg (List.map Int.toNat) he
      simpa [iN, List.map_map, Function.comp_def] using this
    simp [h, this]
theorem sub1 (ds : List Nat) (h : 6 ≤ ds.length) (hl : ds.length ≤ 1000) : sub (iN ds) 0 (IntKind.i64.wrap (((iN ds).length : Int) - 6)) = some (iN (ds.take (ds.length - 6))) := by
  rw [iN_len, w64 (by omega) (by omega)]
  unfold sub
  rw [if_pos ⟨by omega, by omega, by rw [iN_len]; omega⟩, show ((ds.length : Int) - 6).toNat = ds.length - 6 by omega, show (0 : Int).toNat = 0 from rfl, List.drop_zero, iN_take]
theorem sub2 (ds : List Nat) (h : 6 ≤ ds.length) (hl : ds.length ≤ 1000) : sub (iN ds) (IntKind.i64.wrap (((iN ds).length : Int) - 6)) ((iN ds).length : Int) = some (iN (ds.drop (ds.length - 6))) := by
  rw [iN_len, w64 (by omega) (by omega)]
  unfold sub
  rw [if_pos ⟨by omega, by omega, by rw [iN_len]; omega⟩, show ((ds.length : Int) - 6).toNat = ds.length - 6 by omega, Int.toNat_natCast, iN_take, List.take_of_length_le (Nat.le_refl _), iN_drop]
theorem take_lt {ds : List Nat} (h : ∀ x ∈ ds, x < 32) (k : Nat) : ∀ x ∈ ds.take k, x < 256 := fun x hx => Nat.lt_trans (h x (List.mem_of_mem_take hx)) (by decide)
theorem Decode_J1_eq (N : Nat) (hN : 70000 ≤ N) (p : ByteArray) (hp : p.size ≤ 1000) (ds : List Nat) (hd : ∀ x ∈ ds, x < 32) (h : 6 ≤ ds.length) (hl : ds.length ≤ 500) : address_Decode_J1 N p (iN ds) = some (decD p ds) := by
  have hlt : (ds.take (ds.length - 6)).length ≤ 500 := by simp; omega
  have e1 : arp 6 (iN (ds.drop (ds.length - 6))) = some (iN (ds.drop (ds.length - 6))) := by
    unfold arp
    rw [if_pos (by rw [iN_len]; simp; omega), List.take_of_length_le (by rw [iN_len]; simp; omega)]
  have kc := Checksum_eq N hN p hp (ds.take (ds.length - 6)) (take_lt hd _) (by omega)
  have kb := Back_eq N hN (iN (ds.take (ds.length - 6))) (iN_byt (take_lt hd _)) (by rw [iN_len]; exact hlt)
  unfold address_Decode_J1 decD
  simp only [sub1 ds h (by omega), sub2 ds h (by omega), Option.bind_some, kc, e1, arr6, iN_inj, kb]
  by_cases hc : ck p (ds.take (ds.length - 6)) = ds.drop (ds.length - 6)
  · simp [hc]
  · simp [hc]
theorem rDecode_L4_eq (N : Nat) (ds c6 : List Nat) (h : 6 ≤ ds.length) (hl : ds.length ≤ 1000) (hc : c6.length = 6) : ∀ (m j : Nat), 6 - j < m → j ≤ 6 → ref27_Decode_L4 N (iN ds) (iN c6) m (j : Int) = some (if c6.drop j = ds.drop (ds.length - 6 + j) then .brk () else .ret ([], 241))
  | 0, j, hm, _ => by omega
  | m + 1, j, hm, hj => by
    rw [ref27_Decode_L4, iN_len]
    by_cases hj6 : j < 6
    · have e1 : decide ((j : Int) < 6) = true := by simp; omega
      have e2 : aix 6 (iN c6) (j : Int) = some ((c6[j] : Nat) : Int) := by
        unfold aix
        rw [if_pos (by omega), iN_idx c6 (by omega)]
      have e3 : IntKind.i64.wrap (IntKind.i64.wrap ((ds.length : Int) - 6) + (j : Int)) = ((ds.length - 6 + j : Nat) : Int) := by rw [w64 (a := (ds.length : Int) - 6) (by omega) (by omega), w64 (by omega) (by omega)]; omega
      have hk : ds.length - 6 + j < ds.length := by omega
      have ih := rDecode_L4_eq N ds c6 h hl hc m (j + 1) (by omega) (by omega)
      simp only [e1, if_true, e2, Option.bind_some, e3, iN_idx ds hk, i1 (show j ≤ 100000 by omega), ih]
      rw [List.drop_eq_getElem_cons (show j < c6.length by omega), List.drop_eq_getElem_cons hk]
      by_cases he : c6[j] = ds[ds.length - 6 + j]
      · simp [he, Nat.add_assoc]
      · have he' : (((c6[j] : Nat) : Int) != ((ds[ds.length - 6 + j] : Nat) : Int)) = true := by simp; omega
        rw [he', if_pos rfl, if_neg (by intro hcon; injection hcon with h1 _; exact he h1)]
    · have e1 : decide ((j : Int) < 6) = false := by simp; omega
      have h1 : c6.drop j = [] := List.drop_eq_nil_of_le (by omega)
      have h2 : ds.drop (ds.length - 6 + j) = [] := List.drop_eq_nil_of_le (by omega)
      simp only [e1, Bool.false_eq_true, if_false, h1, h2, if_true]
theorem rDecode_J2_eq (N : Nat) (hN : 70000 ≤ N) (p : ByteArray) (hp : p.size ≤ 1000) (ds : List Nat) (hd : ∀ x ∈ ds, x < 32) (h : 6 ≤ ds.length) (hl : ds.length ≤ 500) : ref27_Decode_J2 N p (iN ds) = some (decD p ds) := by
  have hlt : (ds.take (ds.length - 6)).length ≤ 500 := by simp; omega
  have l4 := rDecode_L4_eq N ds (ck p (ds.take (ds.length - 6))) h (by omega) rfl N 0 (by omega) (by omega)
  rw [show ((0 : Nat) : Int) = 0 from rfl, List.drop_zero, Nat.add_zero] at l4
  have kc := rChecksum_eq N hN p hp (ds.take (ds.length - 6)) (take_lt hd _) (by omega)
  have kb := ref27_Back_eq N hN (iN (ds.take (ds.length - 6))) (iN_byt (take_lt hd _)) (by rw [iN_len]; exact hlt)
  unfold ref27_Decode_J2 decD
  simp only [sub1 ds h (by omega), Option.bind_some, kc, arr6, l4]
  by_cases hc : ck p (ds.take (ds.length - 6)) = ds.drop (ds.length - 6)
  · simp only [hc, if_true, ref27_Decode_J3, sub1 ds h (by omega), Option.bind_some, kb]
  · simp only [hc, if_false]
theorem CutPrefix_eq (N : Nat) (T q : ByteArray) : strings_CutPrefix N T q = some (if T.size < q.size then (T, false) else if okP q T = false then (T, false) else (T.extract q.size T.size, true)) := by
  unfold strings_CutPrefix internal_stringslite_CutPrefix internal_stringslite_HasPrefix
  by_cases h : T.size < q.size
  · have e1 : decide ((q.size : Int) ≤ (T.size : Int)) = false := by simp; omega
    simp only [e1, h, if_true, Bool.false_eq_true, if_false, internal_stringslite_HasPrefix_J1, Option.bind_some, Bool.not_false]
  · have e1 : decide ((q.size : Int) ≤ (T.size : Int)) = true := by simp; omega
    have e2 : ssub T 0 (q.size : Int) = some (T.extract 0 q.size) := ssub_ok (a := 0) (by omega) (by omega)
    have e3 : ssub T (q.size : Int) (T.size : Int) = some (T.extract q.size T.size) := ssub_ok (by omega) (by omega)
    have hok : ((T.extract 0 q.size).toList == q.toList) = okP q T := rfl
    simp only [e1, h, if_true, if_false, e2, e3, Option.bind_some, internal_stringslite_HasPrefix_J1, hok]
    cases okP q T <;> rfl
theorem low_size (s : ByteArray) : (small27 s).1.size = s.size := by simp [small27, mkS_size, bs_len]
theorem Decode_eq (N : Nat) (hN : 70000 ≤ N) (p : ByteArray) (hp : p.size ≤ 10) (s : ByteArray) (hs : s.size ≤ 1000) (h1 : address_Prefix N p = some true) : address_Decode N p s = some (dec27 p s) := by
  unfold address_Decode dec27
  have e0 : IntKind.i64.wrap (IntKind.i64.wrap ((p.size : Int) + 1) + 166) = ((p.size + 167 : Nat) : Int) := by rw [w64 (a := (p.size : Int) + 1) (by omega) (by omega), w64 (by omega) (by omega)]; omega
  simp only [h1, Option.bind_some, Bool.not_true, Bool.false_eq_true, if_false, e0]
  by_cases h2 : p.size + 167 < s.size
  · simp only [dT h2, h2, if_true]
  · simp only [dF h2, h2, Bool.false_eq_true, if_false, small_eq N hN s hs, Option.bind_some]
    cases hm : (small27 s).2 with
    | true => simp
    | false =>
      have hq : (p ++ ONE).size = p.size + 1 := by rw [size_app, one_size]
      have hT := low_size s
      generalize (small27 s).1 = T at hT
      simp only [Bool.false_eq_true, if_false, cat_ok (a := p) (b := ONE) (by rw [one_size]; omega), Option.bind_some, CutPrefix_eq, decT]
      by_cases h3 : T.size < (p ++ ONE).size
      · simp only [h3, if_true, Bool.not_false]
      · simp only [h3, if_false]
        cases hk : okP (p ++ ONE) T with
        | false => simp
        | true =>
          have hRs : (T.extract (p ++ ONE).size T.size).size = T.size - (p ++ ONE).size := by rw [← bs_len, bs_extract]; simp [bs_len]
          have hRb : bs (T.extract (p ++ ONE).size T.size) = (bs T).drop (p ++ ONE).size := by rw [bs_extract, List.take_of_length_le (by rw [bs_len]; exact Nat.le_refl _)]
          simp only [if_false, Bool.not_true, Bool.false_eq_true, Bool.true_eq_false]
          by_cases h4 : T.size - (p ++ ONE).size < 6
          · have e4 : decide (((T.extract (p ++ ONE).size T.size).size : Int) < 6) = true := decide_eq_true (by rw [hRs]; omega)
            simp only [e4, h4, if_true]
          · have e4 : decide (((T.extract (p ++ ONE).size T.size).size : Int) < 6) = false := decide_eq_false (by rw [hRs]; omega)
            have hlim := lim_big
            have hbl : (bs (T.extract (p ++ ONE).size T.size)).length = (T.extract (p ++ ONE).size T.size).size := bs_len _
            have e5 : mks 1 0 ((T.extract (p ++ ONE).size T.size).size : Int) = some (iN ([] ++ List.replicate (bs (T.extract (p ++ ONE).size T.size)).length 0)) := by
              rw [mks_ok (by rw [hRs]; omega), hbl]; simp [iN]
            have l2 := Decode_L2_eq N p (T.extract (p ++ ONE).size T.size, true) (by show (T.extract (p ++ ONE).size T.size).size ≤ 1000; rw [hRs]; omega) (bs (T.extract (p ++ ONE).size T.size)) [] [] N rfl rfl (by rw [hbl, hRs]; omega)
            rw [show (([] : List Nat).length : Int) = 0 from rfl] at l2
            rw [hRb] at l2 e5
            simp only [e4, h4, Bool.false_eq_true, if_false, e5, Option.bind_some, l2]
            cases hd : digs ((bs T).drop (p ++ ONE).size) with
            | none => rfl
            | some ds =>
              obtain ⟨k1, k2⟩ := digs_lt hd
              rw [List.length_drop, bs_len] at k2
              simp only [List.nil_append]
              exact Decode_J1_eq N hN p (by omega) ds k1 (by omega) (by omega)
theorem rDecode_eq (N : Nat) (hN : 70000 ≤ N) (p : ByteArray) (hp : p.size ≤ 10) (s : ByteArray) (hs : s.size ≤ 1000) (h1 : ref27_Prefix N p = some true) : ref27_Decode N p s = some (dec27 p s) := by
  unfold ref27_Decode dec27
  have hq : (p ++ ONE).size = p.size + 1 := by rw [size_app, one_size]
  have e0 : IntKind.i64.wrap ((p.size : Int) + 167) = ((p.size + 167 : Nat) : Int) := by rw [w64 (by omega) (by omega)]; omega
  have e1 : IntKind.i64.wrap ((p.size : Int) + 1) = (((p ++ ONE).size : Nat) : Int) := by rw [w64 (by omega) (by omega), hq]; omega
  simp only [h1, Option.bind_some, Bool.not_true, Bool.false_eq_true, if_false, e0, e1]
  by_cases h2 : p.size + 167 < s.size
  · simp only [dT h2, h2, if_true]
  · simp only [dF h2, h2, Bool.false_eq_true, if_false, rsmall_eq N hN s hs, Option.bind_some]
    cases hm : (small27 s).2 with
    | true => simp
    | false =>
      have hT := low_size s
      generalize small27 s = TT at hT hm
      obtain ⟨T, c⟩ := TT
      dsimp only at hT hm
      simp only [Bool.false_eq_true, if_false, decT, ref27_Decode_J1, if_true]
      by_cases h3 : T.size < (p ++ ONE).size
      · simp only [dT h3, h3, if_true]
      · have e2 : ssub T 0 ((p ++ ONE).size : Int) = some (T.extract 0 (p ++ ONE).size) := ssub_ok (a := 0) (by omega) (by omega)
        simp only [dF h3, h3, Bool.false_eq_true, if_false, e2, Option.bind_some, cat_ok (a := p) (b := ONE) (by rw [one_size]; omega)]
        have hok : ((T.extract 0 (p ++ ONE).size).toList == (p ++ ONE).toList) = okP (p ++ ONE) T := rfl
        rw [hok]
        cases hk : okP (p ++ ONE) T with
        | false => simp
        | true =>
          simp only [if_false, Bool.not_true, Bool.false_eq_true, Bool.true_eq_false, e1]
          have e3 : IntKind.i64.wrap ((T.size : Int) - ((p ++ ONE).size : Int)) = ((T.size - (p ++ ONE).size : Nat) : Int) := by rw [w64 (by omega) (by omega)]; omega
          rw [e3]
          by_cases h4 : T.size - (p ++ ONE).size < 6
          · have e4 : decide (((T.size - (p ++ ONE).size : Nat) : Int) < 6) = true := decide_eq_true (by omega)
            simp only [e4, h4, if_true]
          · have e4 : decide (((T.size - (p ++ ONE).size : Nat) : Int) < 6) = false := decide_eq_false (by omega)
            have htl : ((bs T).take (p ++ ONE).size).length = (p ++ ONE).size := by rw [List.length_take, bs_len]; omega
            have l5 := rDecode_L5_eq N hN p (T, c) (by show T.size ≤ 1000; omega) ((bs T).drop (p ++ ONE).size) ((bs T).take (p ++ ONE).size) [] N (List.take_append_drop ..).symm (by simp) (by rw [List.length_drop, bs_len]; omega)
            rw [htl, show iN [] = [] from rfl] at l5
            simp only [e4, h4, Bool.false_eq_true, if_false, l5, Option.bind_some]
            cases hd : digs ((bs T).drop (p ++ ONE).size) with
            | none => rfl
            | some ds =>
              obtain ⟨k1, k2⟩ := digs_lt hd
              rw [List.length_drop, bs_len] at k2
              simp only [List.nil_append]
              exact rDecode_J2_eq N hN p (by omega) ds k1 (by omega) (by omega)
/-! ### The law -/
theorem prefix_eq2 (vn : Int) : ∃ x, law27_prefix NN vn = some x ∧ 0 < x.size ∧ x.size ≤ 10 ∧ address_Prefix NN x = some true ∧ ref27_Prefix NN x = some true := by
  obtain ⟨x, h0, h1, h2, h3⟩ := prefix_eq vn
  obtain ⟨r, h4, h5⟩ := Prefix_eq NN (Nat.le_refl _) x (by omega)
  rw [h3] at h4
  injection h4 with h4
  subst h4
  exact ⟨x, h0, h1, h2, h3, h5⟩
theorem addr_size (p : ByteArray) (b : List Int) : (addr p b).size = p.size + 1 + ((8 * b.length + 4) / 5 + 6) := by
  unfold addr
  rw [size_app, size_app, one_size, mkS_size, List.length_map, cw_len]
theorem Decodes_L3 (N : Nat) (hN : 70000 ≤ N) (s p y z u : ByteArray) (vby x45 : Int) (l : List Int) (hp : p.size ≤ 10) (h1 : address_Prefix N p = some true) (h2 : ref27_Prefix N p = some true) (hs : s.size ≤ 1000) (hy : y.size ≤ 1000) (hz : z.size ≤ 1000) (hu : u.size ≤ 1000) (hl : l.length ≤ 1000) :
    ∀ (m j : Nat), 5 - j < m → j ≤ 5 → law27_AddressDecodes_L3 N s vby p l x45 y z u m (j : Int) = some (.brk ())
  | 0, j, hm, _ => by omega
  | m + 1, j, hm, hj => by
    rw [law27_AddressDecodes_L3]
    by_cases hj2 : j < 5
    · have e1 : decide ((j : Int) < (5 : Int)) = true := by simp; omega
      have hx : ∃ x, idx [s, y, strOf (l.set (Int.toNat x45) (IntKind.u8.wrap vby)), z, u] (j : Int) = some x ∧ x.size ≤ 1000 := by
        match j, hj2 with
        | 0, _ => exact ⟨_, rfl, hs⟩
        | 1, _ => exact ⟨_, rfl, hy⟩
        | 2, _ => exact ⟨_, rfl, by rw [strOf_size, List.length_set]; exact hl⟩
        | 3, _ => exact ⟨_, rfl, hz⟩
        | 4, _ => exact ⟨_, rfl, hu⟩
      obtain ⟨x, hx, hxs⟩ := hx
      have ih := Decodes_L3 N hN s p y z u vby x45 l hp h1 h2 hs hy hz hu hl m (j + 1) (by omega) (by omega)
      simp only [e1, if_true, hx, Option.bind_some, Decode_eq N hN p hp x hxs h1, rDecode_eq N hN p hp x hxs h2, bne_self_eq_false, Bool.false_eq_true, if_false, Same_self, law27_AddressDecodes_J4, Bool.not_true, i1 (show j ≤ 100000 by omega), ih]
    · have e1 : decide ((j : Int) < (5 : Int)) = false := by simp; omega
      simp only [e1, Bool.false_eq_true, if_false]
theorem AddressDecodes_true (s : ByteArray) (vn : Int) (b : List Int) (vat vby : Int) (hb : Byt b) : law27_AddressDecodes NN s vn b vat vby = some true := by
  unfold law27_AddressDecodes
  rw [sane_true]
  simp only [Option.bind_some, Bool.not_true, Bool.false_eq_true, if_false]
  by_cases h1 : 250 < s.size
  · have e1 : decide (250 < (s.size : Int)) = true := by simp; omega
    simp only [e1, if_true, law27_AddressDecodes_J1]
  · have e1 : decide (250 < (s.size : Int)) = false := by simp; omega
    simp only [e1, Bool.false_eq_true, if_false, law27_AddressDecodes_J1]
    by_cases h2 : 100 < b.length
    · have e2 : decide (100 < (b.length : Int)) = true := by simp; omega
      simp only [e2, if_true]
    · have e2 : decide (100 < (b.length : Int)) = false := by simp; omega
      obtain ⟨p, hp, _, hp1, hp2, hp3⟩ := prefix_eq2 vn
      have hen := (Encode_both NN (Nat.le_refl _) p (by omega) b hb (by omega) true hp2 hp3).2
      have he : enc27 true p b = (addr p b, 0) := by unfold enc27; simp only [if_true, h2, if_false]
      rw [he] at hen
      have has := addr_size p b
      have hal : (iN (bs (addr p b))).length = (addr p b).size := by rw [iN_len, bs_len]
      obtain ⟨k, hk, ek⟩ := Mod_eq NN vat (addr p b).size (by omega) (by omega)
      obtain ⟨k', hk', ek'⟩ := Mod_eq NN vat ((addr p b).size + 1) (by omega) (by omega)
      have e3 : IntKind.i64.wrap (((addr p b).size : Int) + 1) = (((addr p b).size + 1 : Nat) : Int) := i1 (by omega)
      have e4 : ssub (addr p b) 0 (k' : Int) = some ((addr p b).extract 0 k') := ssub_ok (a := 0) (by omega) (by omega)
      have hzs : ((addr p b).extract 0 k').size ≤ 1000 := by rw [← bs_len, bs_extract]; simp; omega
      have hq : (p ++ ONE).size = p.size + 1 := by rw [size_app, one_size]
      have l3 := Decodes_L3 NN (Nat.le_refl _) s p (p ++ ONE ++ s) ((addr p b).extract 0 k') (addr p b ++ addr p b) vby (k : Int) (iN (bs (addr p b))) hp1 hp2 hp3 (by omega) (by rw [size_app, hq]; omega) hzs (by rw [size_app]; omega) (by rw [hal]; omega) NN 0 (by decide) (by omega)
      rw [show ((0 : Nat) : Int) = 0 from rfl] at l3
      simp only [e2, Bool.false_eq_true, if_false, hp, Option.bind_some, hen, stb_ok (s := addr p b) (by omega), hal, ek, idx_lt (iN (bs (addr p b))) (show k < (iN (bs (addr p b))).length by rw [hal]; exact hk), cat_ok (a := p) (b := ONE) (by rw [one_size]; omega), cat_ok (a := p ++ ONE) (b := s) (by rw [hq]; omega), e3, ek', e4, cat_ok (a := addr p b) (b := addr p b) (by omega), l3, law27_AddressDecodes_J2]
end Go.Proofs.YtidkaiebgjbekaaDoor
