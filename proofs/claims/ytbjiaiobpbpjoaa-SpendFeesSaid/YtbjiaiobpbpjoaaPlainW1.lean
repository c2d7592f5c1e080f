import Derived.Test.YtbjiaiobpbpjoaaPlain2
import Derived.Test.YtbjiaiobpbpjoaaSh
set_option linter.unusedSimpArgs false
set_option linter.unusedVariables false
namespace Go.Proofs.Ytbjiaiobpbpjoaa
open Go Go.Vm

/-! ### Numbers as bytes -/
def shV (v : Int) (i : Nat) : Int := IntKind.u8.wrap (v.fdiv (2 ^ (min (8 * i) 64)))
def lowB (w : Nat) (v : Int) : List Int := (List.range w).map (shV v)
theorem lowB_len (w : Nat) (v : Int) : (lowB w v).length = w := by simp [lowB]
theorem shr8 (v : Int) (i : Nat) (hi : i ≤ 100) : ∃ y, shr .u64 v (IntKind.i64.wrap (8 * (i : Int))) = some y ∧ IntKind.u8.wrap y = shV v i := by
  refine ⟨_, ?_, rfl⟩
  rw [w64 (by omega) (by omega)]
  unfold shr
  rw [if_neg (by omega)]
  congr 3
theorem set_step (w : Nat) (v : Int) (j : Nat) (hj : j < w) : (((List.range j).map (shV v)) ++ List.replicate (w - j) 0).set j (shV v j) = ((List.range (j + 1)).map (shV v)) ++ List.replicate (w - (j + 1)) 0 := by
  rw [List.set_append_right _ _ (by simp), show w - j = (w - (j + 1)) + 1 by omega, List.replicate_succ, List.range_succ, List.map_append, List.append_assoc]
  simp
theorem low_loop {f : Nat → Int → List Int → Option (List Int)} (w : Nat) (v : Int) (hw : w ≤ 100)
    (hs : ∀ m j acc, j < w → acc.length = w → f (m + 1) (j : Int) acc = f m ((j + 1 : Nat) : Int) (acc.set j (shV v j))) (he : ∀ m acc, acc.length = w → f (m + 1) (w : Int) acc = some acc) :
    ∀ (m j : Nat), w - j < m → j ≤ w → f m (j : Int) (((List.range j).map (shV v)) ++ List.replicate (w - j) 0) = some (lowB w v)
  | 0, j, hm, _ => by omega
  | m + 1, j, hm, hj => by
    by_cases h : j < w
    · rw [hs m j _ h (by simp; omega), set_step w v j h]
      exact low_loop w v hw hs he m (j + 1) (by omega) (by omega)
    · have : j = w := by omega
      subst this
      rw [he m _ (by simp), Nat.sub_self]
      simp [lowB]
theorem lowest_eq (N : Nat) (hN : 70000 ≤ N) (v : Int) (w : Nat) (hw : w ≤ 100) : codec_lowest N v (w : Int) = some (lowB w v) := by
  have hmk : mks 1 (0 : Int) (w : Int) = some (List.replicate w 0) := mks_ok (by have := lim_big2; omega)
  have := low_loop (f := codec_lowest_L2 N v (w : Int)) w v hw (fun m j acc hj hl => by
      obtain ⟨y, h1, h2⟩ := shr8 v j (by omega)
      rw [codec_lowest_L2, dT hj, if_pos rfl, h1, idx_lt acc (by omega : j < acc.length)]
      simp only [Option.bind_some, Int.toNat_natCast, h2, i1 (show j ≤ 100000 by omega)])
    (fun m acc hl => by rw [codec_lowest_L2, dF (Nat.lt_irrefl w)]; rfl) N 0 (by omega) (by omega)
  simp only [codec_lowest, hmk, Option.bind_some, codec_lowest_J1]
  simp only [List.range_zero, List.map_nil, List.nil_append, Nat.sub_zero] at this
  rw [show ((0 : Nat) : Int) = 0 from rfl] at this
  rw [this]; rfl
theorem little_eq (N : Nat) (hN : 70000 ≤ N) (v : Int) (w : Nat) (hw : w ≤ 100) : ref01_little N v (w : Int) = some (lowB w v) := by
  have hmk : mks 1 (0 : Int) (w : Int) = some (List.replicate w 0) := mks_ok (by have := lim_big2; omega)
  have hl0 : (List.replicate w (0 : Int)).length = w := by simp
  have := low_loop (f := ref01_little_L2 N v (List.replicate w 0)) w v hw (fun m j acc hj hl => by
      obtain ⟨y, h1, h2⟩ := shr8 v j (by omega)
      rw [ref01_little_L2, hl0, dT hj, if_pos rfl, h1, idx_lt acc (by omega : j < acc.length)]
      simp only [Option.bind_some, Int.toNat_natCast, h2, i1 (show j ≤ 100000 by omega)])
    (fun m acc hl => by rw [ref01_little_L2, hl0, dF (Nat.lt_irrefl w)]; rfl) N 0 (by omega) (by omega)
  simp only [ref01_little, hmk, Option.bind_some, ref01_little_J1]
  simp only [List.range_zero, List.map_nil, List.nil_append, Nat.sub_zero] at this
  rw [show ((0 : Nat) : Int) = 0 from rfl] at this
  rw [this]; rfl
theorem extend_eq (N : Nat) (b v : List Int) (h : b.length + v.length ≤ 50000000) : codec_extend N b v = some (b ++ v) := by
  have hmk : mks 1 (0 : Int) (IntKind.i64.wrap ((b.length : Int) + (v.length : Int))) = some (List.replicate (b.length + v.length) 0) := by
    rw [w64 (by omega) (by omega), show (b.length : Int) + (v.length : Int) = ((b.length + v.length : Nat) : Int) by omega]
    exact mks_ok (by have := lim_big2; omega)
  simp only [codec_extend, hmk, Option.bind_some, List.take_zero]
  rw [appB (by simp; omega)]
  simp only [Option.bind_some, List.nil_append]
  rw [appB (by omega)]; rfl
theorem joined_eq (N : Nat) (b v : List Int) (h : b.length + v.length ≤ 50000000) : ref01_joined N b v = some (b ++ v) := by
  have hmk : mks 1 (0 : Int) (IntKind.i64.wrap ((b.length : Int) + (v.length : Int))) = some (List.replicate (b.length + v.length) 0) := by
    rw [w64 (by omega) (by omega), show (b.length : Int) + (v.length : Int) = ((b.length + v.length : Nat) : Int) by omega]
    exact mks_ok (by have := lim_big2; omega)
  simp only [ref01_joined, hmk, Option.bind_some, List.take_zero]
  rw [appB (by simp; omega)]
  simp only [Option.bind_some, List.nil_append]
  rw [appB (by omega)]; rfl
def u32B (v : Int) : List Int := lowB 4 (IntKind.u64.wrap v)
def u64B (v : Int) : List Int := lowB 8 v
theorem u32B_len (v : Int) : (u32B v).length = 4 := lowB_len _ _
theorem u64B_len (v : Int) : (u64B v).length = 8 := lowB_len _ _
section
variable (N : Nat) (hN : 70000 ≤ N)
include hN
theorem aU32 (b : List Int) (v : Int) (h : b.length ≤ 40000000) : codec_AppendU32 N b v = some (b ++ u32B v) := by
  simp only [codec_AppendU32, show (4 : Int) = ((4 : Nat) : Int) from rfl, lowest_eq N hN _ 4 (by omega), Option.bind_some]
  rw [extend_eq N _ _ (by rw [lowB_len]; omega)]; rfl
theorem rU32 (b : List Int) (v : Int) (h : b.length ≤ 40000000) : ref01_AppendU32 N b v = some (b ++ u32B v) := by
  simp only [ref01_AppendU32, show (4 : Int) = ((4 : Nat) : Int) from rfl, little_eq N hN _ 4 (by omega), Option.bind_some]
  rw [joined_eq N _ _ (by rw [lowB_len]; omega)]; rfl
theorem aU64 (b : List Int) (v : Int) (h : b.length ≤ 40000000) : codec_AppendU64 N b v = some (b ++ u64B v) := by
  simp only [codec_AppendU64, show (8 : Int) = ((8 : Nat) : Int) from rfl, lowest_eq N hN _ 8 (by omega), Option.bind_some]
  rw [extend_eq N _ _ (by rw [lowB_len]; omega)]; rfl
theorem rU64 (b : List Int) (v : Int) (h : b.length ≤ 40000000) : ref01_AppendU64 N b v = some (b ++ u64B v) := by
  simp only [ref01_AppendU64, show (8 : Int) = ((8 : Nat) : Int) from rfl, little_eq N hN _ 8 (by omega), Option.bind_some]
  rw [joined_eq N _ _ (by rw [lowB_len]; omega)]; rfl
end
theorem wu (k : IntKind) (n : Nat) (hk : k.signed = false) (h : (n : Int) < 2 ^ k.bits) : k.wrap (n : Int) = n := by
  rw [wrap_u hk]; exact Int.emod_eq_of_lt (by omega) h
/-- A size as bytes. -/
def szB (n : Nat) : List Int := if n < 253 then lowB 1 n else if n < 65536 then 253 :: lowB 2 n else 254 :: lowB 4 n
theorem szB_len (n : Nat) : 1 ≤ (szB n).length ∧ (szB n).length ≤ 5 := by
  unfold szB
  split
  · simp [lowB_len]
  · split <;> simp [lowB_len]
theorem low1 (n : Nat) (h : n < 256) : lowB 1 (n : Int) = [IntKind.u8.wrap (n : Int)] := by
  simp [lowB, shV, List.range_succ]
section
variable (N : Nat) (hN : 70000 ≤ N)
include hN
theorem aSize (b : List Int) (n : Nat) (hn : n ≤ 1000000) (h : b.length ≤ 30000000) : codec_AppendSize N b (IntKind.u64.wrap (n : Int)) = some (b ++ szB n) := by
  rw [wu .u64 n rfl (by simp [IntKind.bits]; omega)]
  unfold codec_AppendSize szB
  by_cases h1 : n < 253
  · have e1 : decide ((n : Int) < 253) = true := decide_eq_true (by omega)
    rw [e1, if_pos rfl, if_pos h1, extend_eq N _ _ (by simp; omega), low1 n (by omega)]; rfl
  · have e1 : decide ((n : Int) < 253) = false := decide_eq_false (by omega)
    rw [e1, if_neg h1]
    by_cases h2 : n < 65536
    · have e2 : decide ((n : Int) < 65536) = true := decide_eq_true (by omega)
      simp only [e2, Bool.false_eq_true, if_false, if_true, if_pos h2]
      rw [extend_eq N _ _ (by simp; omega)]
      simp only [Option.bind_some, codec_AppendU16, show (2 : Int) = ((2 : Nat) : Int) from rfl, lowest_eq N hN _ 2 (by omega)]
      rw [wu .u16 n rfl (by simp [IntKind.bits]; omega), wu .u64 n rfl (by simp [IntKind.bits]; omega), extend_eq N _ _ (by simp [lowB_len]; omega)]
      simp
    · have e2 : decide ((n : Int) < 65536) = false := decide_eq_false (by omega)
      have e3 : decide ((n : Int) < 4294967296) = true := decide_eq_true (by omega)
      simp only [e2, e3, Bool.false_eq_true, if_false, if_true, if_neg h2]
      rw [extend_eq N _ _ (by simp; omega)]
      simp only [Option.bind_some]
      rw [aU32 N hN (b ++ [254]) _ (by simp; omega), wu .u32 n rfl (by simp [IntKind.bits]; omega)]
      simp only [u32B, wu .u64 n rfl (show (n : Int) < 2 ^ IntKind.u64.bits by simp [IntKind.bits]; omega), Option.bind_some, List.append_assoc]
      rfl
theorem rSize (b : List Int) (n : Nat) (hn : n ≤ 1000000) (h : b.length ≤ 30000000) : ref01_AppendSize N b (IntKind.u64.wrap (n : Int)) = some (b ++ szB n) := by
  rw [wu .u64 n rfl (by simp [IntKind.bits]; omega)]
  unfold ref01_AppendSize szB
  by_cases h1 : n < 253
  · have e1 : decide ((n : Int) < 253) = true := decide_eq_true (by omega)
    rw [e1, if_pos rfl, if_pos h1]
    simp only [show (1 : Int) = ((1 : Nat) : Int) from rfl, little_eq N hN _ 1 (by omega), Option.bind_some]
    rw [joined_eq N _ _ (by rw [lowB_len]; omega)]; rfl
  · have e1 : decide ((n : Int) < 253) = false := decide_eq_false (by omega)
    rw [e1, if_neg h1]
    by_cases h2 : n < 65536
    · have e2 : decide ((n : Int) < 65536) = true := decide_eq_true (by omega)
      simp only [e2, Bool.false_eq_true, if_false, if_true, if_pos h2, show (2 : Int) = ((2 : Nat) : Int) from rfl, little_eq N hN _ 2 (by omega), Option.bind_some]
      rw [joined_eq N _ _ (by simp [lowB_len])]
      simp only [Option.bind_some]
      rw [joined_eq N _ _ (by simp [lowB_len]; omega)]; rfl
    · have e2 : decide ((n : Int) < 65536) = false := decide_eq_false (by omega)
      have e3 : decide ((n : Int) < 4294967296) = true := decide_eq_true (by omega)
      simp only [e2, e3, Bool.false_eq_true, if_false, if_true, if_neg h2, show (4 : Int) = ((4 : Nat) : Int) from rfl, little_eq N hN _ 4 (by omega), Option.bind_some]
      rw [joined_eq N _ _ (by simp [lowB_len])]
      simp only [Option.bind_some]
      rw [joined_eq N _ _ (by simp [lowB_len]; omega)]; rfl
theorem aBytes (b s : List Int) (hs : s.length ≤ 1000000) (h : b.length ≤ 30000000) : codec_AppendBytes N b s = some (b ++ (szB s.length ++ s)) := by
  have := szB_len s.length
  simp only [codec_AppendBytes, aSize N hN b _ hs (by omega), Option.bind_some]
  rw [extend_eq N _ _ (by rw [List.length_append]; omega), Option.bind_some, List.append_assoc]
theorem rBytes (b s : List Int) (hs : s.length ≤ 1000000) (h : b.length ≤ 30000000) : ref01_AppendBytes N b s = some (b ++ (szB s.length ++ s)) := by
  have := szB_len s.length
  simp only [ref01_AppendBytes, rSize N hN b _ hs (by omega), Option.bind_some]
  rw [joined_eq N _ _ (by rw [List.length_append]; omega), Option.bind_some, List.append_assoc]
theorem aPoint (t : List Int) (i : Int) (ht : t.length = 32) : tx_Point N t i = some (t ++ u32B i) := by
  simp only [tx_Point, codec_AppendHash, arr, if_pos ht, Option.bind_some]
  rw [extend_eq N _ _ (by simp; omega)]
  simp only [Option.bind_some, List.nil_append]
  rw [aU32 N hN _ _ (by omega)]; rfl
theorem rPoint (t : List Int) (i : Int) (ht : t.length = 32) : ref09_Point N t i = some (t ++ u32B i) := by
  simp only [ref09_Point, ref01_AppendHash, arr, if_pos ht, Option.bind_some]
  rw [joined_eq N _ _ (by simp; omega)]
  simp only [Option.bind_some, List.nil_append]
  rw [rU32 N hN _ _ (by omega)]; rfl
def outB (o : S_api_Output) : List Int := u64B (IntKind.u64.wrap o.Value) ++ (szB o.Script.length ++ o.Script)
theorem rOut (o : S_api_Output) (h : o.Script.length ≤ 600) : ref09_Out N o.Value o.Script = some (outB o) := by
  simp only [ref09_Out, rU64 N hN _ _ (show ([] : List Int).length ≤ 40000000 by simp), Option.bind_some, List.nil_append]
  rw [rBytes N hN _ _ (by omega) (by rw [u64B_len]; omega)]; rfl
end
end Go.Proofs.Ytbjiaiobpbpjoaa
