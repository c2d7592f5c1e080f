import Derived.Test.YtidkaiebgjbekaaDoorVmDrawG
import Derived.Test.YtidkaiebgjbekaaDoorVmExt
set_option linter.unusedVariables false
set_option linter.unusedSimpArgs false
namespace Go.Proofs.YtidkaiebgjbekaaDoor
open Go Go.Vm

def address_Convert_J2 (N : Nat) (l0_1 : List Int) : Option (List Int) :=
  some l0_1
def address_Convert_J1 (N : Nat) (held : Int) (vn : Int) (l0 : List Int) : Option (List Int) :=
  if decide (0 < vn) then
    (shl .u32 held (IntKind.i64.wrap (5 - vn))).bind fun x45 =>
    (app 1 l0 [IntKind.u8.wrap x45]).bind fun x48 =>
    address_Convert_J2 N x48
  else
    address_Convert_J2 N l0
def address_Convert_J4 (N : Nat) (b : List Int) (x10 : Int) (rec : Int → Int → Int → (List Int) → Option (Int × Int × (List Int))) (held_2 : Int) (vn_2 : Int) (l0_3 : List Int) : Option (Int × Int × (List Int)) :=
  rec held_2 vn_2 (IntKind.i64.wrap (x10 + 1)) l0_3
def address_Convert_J5 (N : Nat) (b : List Int) (x10 : Int) (x12 : Int) (x15 : Int) (rec : Int → Int → Int → (List Int) → Option (Int × Int × (List Int))) (vn_3 : Int) (l0_4 : List Int) : Option (Int × Int × (List Int)) :=
  (shl .u32 1 vn_3).bind fun x35 =>
  address_Convert_J4 N b x10 rec (bits .and .u32 (bits .or .u32 x15 (IntKind.u32.wrap x12)) (IntKind.u32.wrap (x35 - 1))) vn_3 l0_4
def address_Convert_L6 (N : Nat) (b : List Int) (x10 : Int) (x12 : Int) (x15 : Int) : Nat → Int → (List Int) → Option (Int × (List Int))
  | 0, _, _ => none
  | m + 1, vn_4, l0_5 =>
    if decide (5 ≤ vn_4) then
      (shr .u32 (bits .or .u32 x15 (IntKind.u32.wrap x12)) (IntKind.i64.wrap (vn_4 - 5))).bind fun x28 =>
      (app 1 l0_5 [bits .and .u8 (IntKind.u8.wrap x28) 31]).bind fun x32 =>
      (address_Convert_L6 N b x10 x12 x15 m) (IntKind.i64.wrap (vn_4 - 5)) x32
    else
      some (vn_4, l0_5)
def address_Convert_L3 (N : Nat) (b : List Int) : Nat → Int → Int → Int → (List Int) → Option (Int × Int × (List Int))
  | 0, _, _, _, _ => none
  | m + 1, held_1, vn_1, x10, l0_2 =>
    if decide (x10 < (b.length : Int)) then
      (idx b x10).bind fun x12 =>
      (shl .u32 held_1 8).bind fun x15 =>
      (address_Convert_L6 N b x10 x12 x15 N (IntKind.i64.wrap (vn_1 + 8)) l0_2).bind fun p6 =>
      address_Convert_J5 N b x10 x12 x15 (address_Convert_L3 N b m) p6.1 p6.2
    else
      some (held_1, vn_1, l0_2)
def address_Convert (N : Nat) (b : List Int) : Option (List Int) :=
  (address_Convert_L3 N b N 0 0 0 []).bind fun p3 =>
  address_Convert_J1 N p3.1 p3.2.1 p3.2.2
def address_Back_J3 (N : Nat) (l0 : List Int) (x55 : Bool) : Option ((List Int) × Int) :=
  if x55 then
    some ([], 3)
  else
    some (l0, 0)
def address_Back_J2 (N : Nat) (held : Int) (vn : Int) (l0 : List Int) : Option ((List Int) × Int) :=
  if decide (5 ≤ vn) then
    address_Back_J3 N l0 true
  else
    address_Back_J3 N l0 (held != 0)
def address_Back_J5 (N : Nat) (d : List Int) (x22 : Int) (rec : Int → Int → Int → (List Int) → Option (Int × Int × (List Int))) (held_2 : Int) (vn_2 : Int) (l0_2 : List Int) : Option (Int × Int × (List Int)) :=
  rec held_2 vn_2 (IntKind.i64.wrap (x22 + 1)) l0_2
def address_Back_L4 (N : Nat) (d : List Int) : Nat → Int → Int → Int → (List Int) → Option (Int × Int × (List Int))
  | 0, _, _, _, _ => none
  | m + 1, held_1, vn_1, x22, l0_1 =>
    if decide (x22 < (d.length : Int)) then
      (idx d x22).bind fun x24 =>
      (shl .u32 held_1 5).bind fun x27 =>
      if decide (8 ≤ (IntKind.i64.wrap (vn_1 + 5))) then
        (shr .u32 (bits .or .u32 x27 (IntKind.u32.wrap x24)) (IntKind.i64.wrap ((IntKind.i64.wrap (vn_1 + 5)) - 8))).bind fun x40 =>
        (app 1 l0_1 [IntKind.u8.wrap x40]).bind fun x43 =>
        (shl .u32 1 (IntKind.i64.wrap ((IntKind.i64.wrap (vn_1 + 5)) - 8))).bind fun x46 =>
        address_Back_J5 N d x22 (address_Back_L4 N d m) (bits .and .u32 (bits .or .u32 x27 (IntKind.u32.wrap x24)) (IntKind.u32.wrap (x46 - 1))) (IntKind.i64.wrap ((IntKind.i64.wrap (vn_1 + 5)) - 8)) x43
      else
        address_Back_J5 N d x22 (address_Back_L4 N d m) (bits .or .u32 x27 (IntKind.u32.wrap x24)) (IntKind.i64.wrap (vn_1 + 5)) l0_1
    else
      some (held_1, vn_1, l0_1)
def address_Back_J1 (N : Nat) (d : List Int) : Option ((List Int) × Int) :=
  (address_Back_L4 N d N 0 0 0 []).bind fun p4 =>
  address_Back_J2 N p4.1 p4.2.1 p4.2.2
def address_Back_L6 (N : Nat) (d : List Int) : Nat → Int → Option (LR (Unit) ((List Int) × Int))
  | 0, _ => none
  | m + 1, x13 =>
    if decide (x13 < (d.length : Int)) then
      (idx d x13).bind fun x15 =>
      if decide (31 < x15) then
        some (.ret ([], 5))
      else
        (address_Back_L6 N d m) (IntKind.i64.wrap (x13 + 1))
    else
      some (.brk ())
def address_Back (N : Nat) (d : List Int) : Option ((List Int) × Int) :=
  (address_Back_L6 N d N 0).bind fun q => match q with
    | .ret v => some v
    | .brk p6 =>
      address_Back_J1 N d
def law27_sane_J1 (N : Nat) (x0 : Bool) : Option Bool :=
  some x0
def law27_sane (N : Nat) : Option Bool :=
  (address_Convert N [255]).bind fun x5 =>
  (address_Back N [31, 29]).bind fun x8 =>
  if (x5.length : Int) == 2 then
    (idx x5 0).bind fun x16 =>
    if x16 == 31 then
      (idx x5 1).bind fun x22 =>
      if x22 == 28 then
        law27_sane_J1 N (x8.2 == 3)
      else
        law27_sane_J1 N false
    else
      law27_sane_J1 N false
  else
    law27_sane_J1 N false
def address_remainder_J1 (N : Nat) (c_1 : Int) : Option Int :=
  some c_1
def address_remainder_J3 (N : Nat) (digits : List Int) (x11 : Int) (rec : Int → Int → Option Int) (c_3 : Int) : Option Int :=
  rec c_3 (IntKind.i64.wrap (x11 + 1))
def address_remainder_J5 (N : Nat) (digits : List Int) (x11 : Int) (x16 : Int) (x23 : Int) (rec : Int → Int → Option Int) (c_5 : Int) : Option Int :=
  rec c_5 (IntKind.i64.wrap (x23 + 1))
def address_remainder_L4 (N : Nat) (digits : List Int) (x11 : Int) (x16 : Int) : Nat → Int → Int → Option Int
  | 0, _, _ => none
  | m + 1, c_4, x23 =>
    if decide (x23 < 5) then
      (shr .u32 x16 x23).bind fun x28 =>
      if (bits .and .u32 x28 1) == 1 then
        (aix 5 gens x23).bind fun x33 =>
        address_remainder_J5 N digits x11 x16 x23 (address_remainder_L4 N digits x11 x16 m) (bits .xor .u32 c_4 x33)
      else
        address_remainder_J5 N digits x11 x16 x23 (address_remainder_L4 N digits x11 x16 m) c_4
    else
      some c_4
def address_remainder_L2 (N : Nat) (digits : List Int) : Nat → Int → Int → Option Int
  | 0, _, _ => none
  | m + 1, c_2, x11 =>
    if decide (x11 < (digits.length : Int)) then
      (idx digits x11).bind fun x13 =>
      (shr .u32 c_2 25).bind fun x16 =>
      (shl .u32 (bits .and .u32 c_2 33554431) 5).bind fun x19 =>
      (address_remainder_L4 N digits x11 x16 N (bits .xor .u32 x19 (IntKind.u32.wrap x13)) 0).bind fun p4 =>
      address_remainder_J3 N digits x11 (address_remainder_L2 N digits m) p4
    else
      some c_2
def address_remainder (N : Nat) (c : Int) (digits : List Int) : Option Int :=
  (address_remainder_L2 N digits N c 0).bind fun p2 =>
  address_remainder_J1 N p2
def address_Checksum_J4 (N : Nat) (l1 : List Int) : Option (List Int) :=
  (arr 6 l1).bind fun q =>
  some l1
def address_Checksum_L5 (N : Nat) (x55 : Int) : Nat → Int → (List Int) → Option (List Int)
  | 0, _, _ => none
  | m + 1, x57, l1_1 =>
    if decide (x57 < 6) then
      (shr .u32 (bits .xor .u32 x55 1) (IntKind.i64.wrap (5 * (IntKind.i64.wrap (5 - x57))))).bind fun x65 =>
      (aix 6 l1_1 x57).bind fun x68 =>
      (address_Checksum_L5 N x55 m) (IntKind.i64.wrap (x57 + 1)) (l1_1.set (Int.toNat x57) (bits .and .u8 (IntKind.u8.wrap x65) 31))
    else
      some l1_1
def address_Checksum_J3 (N : Nat) (c_2 : Int) : Option (List Int) :=
  (address_remainder N c_2 [0, 0, 0, 0, 0, 0]).bind fun x55 =>
  (address_Checksum_L5 N x55 N 0 (List.replicate 6 0)).bind fun p5 =>
  address_Checksum_J4 N p5
def address_Checksum_L6 (N : Nat) (d : List Int) : Nat → Int → Int → Option Int
  | 0, _, _ => none
  | m + 1, c_3, x43 =>
    if decide (x43 < (d.length : Int)) then
      (idx d x43).bind fun x45 =>
      (address_remainder N c_3 [Int.tmod x45 32]).bind fun x51 =>
      (address_Checksum_L6 N d m) x51 (IntKind.i64.wrap (x43 + 1))
    else
      some c_3
def address_Checksum_J2 (N : Nat) (d : List Int) (c_1 : Int) : Option (List Int) :=
  (address_Checksum_L6 N d N c_1 0).bind fun p6 =>
  address_Checksum_J3 N p6
def address_Checksum_L7 (N : Nat) (vprefix : ByteArray) (d : List Int) : Nat → Int → Int → Option Int
  | 0, _, _ => none
  | m + 1, c_4, x30 =>
    if decide (x30 < (vprefix.size : Int)) then
      (sidx vprefix x30).bind fun x36 =>
      (address_remainder N c_4 [bits .and .u8 x36 31]).bind fun x39 =>
      (address_Checksum_L7 N vprefix d m) x39 (IntKind.i64.wrap (x30 + 1))
    else
      some c_4
def address_Checksum_J1 (N : Nat) (vprefix : ByteArray) (d : List Int) (c : Int) : Option (List Int) :=
  (address_remainder N c [0]).bind fun x27 =>
  (address_Checksum_L7 N vprefix d N x27 0).bind fun p7 =>
  address_Checksum_J2 N d p7
def address_Checksum_L8 (N : Nat) (vprefix : ByteArray) (d : List Int) : Nat → Int → Int → Option Int
  | 0, _, _ => none
  | m + 1, c_5, x14 =>
    if decide (x14 < (vprefix.size : Int)) then
      (sidx vprefix x14).bind fun x20 =>
      (shr .u8 x20 5).bind fun x21 =>
      (address_remainder N c_5 [x21]).bind fun x23 =>
      (address_Checksum_L8 N vprefix d m) x23 (IntKind.i64.wrap (x14 + 1))
    else
      some c_5
def address_Checksum (N : Nat) (vprefix : ByteArray) (d : List Int) : Option (List Int) :=
  (address_Checksum_L8 N vprefix d N 1 0).bind fun p8 =>
  address_Checksum_J1 N vprefix d p8
def ref27_remainder_J1 (N : Nat) (c : Int) : Option Int :=
  some c
def ref27_remainder_J3 (N : Nat) (d : List Int) (vi : Int) (rec : Int → Int → Option Int) (c_2 : Int) : Option Int :=
  rec c_2 (IntKind.i64.wrap (vi + 1))
def ref27_remainder_J5 (N : Nat) (d : List Int) (vi : Int) (x16 : Int) (k : Int) (rec : Int → Int → Option Int) (c_4 : Int) : Option Int :=
  rec c_4 (IntKind.i64.wrap (k + 1))
def ref27_remainder_L4 (N : Nat) (d : List Int) (vi : Int) (x16 : Int) : Nat → Int → Int → Option Int
  | 0, _, _ => none
  | m + 1, c_3, k =>
    if decide (k < 5) then
      (shr .u32 x16 (IntKind.u64.wrap k)).bind fun x33 =>
      if (bits .and .u32 x33 1) == 1 then
        (aix 5 [996825010, 642813549, 513874426, 1027748829, 705979059] k).bind fun x38 =>
        ref27_remainder_J5 N d vi x16 k (ref27_remainder_L4 N d vi x16 m) (bits .xor .u32 c_3 x38)
      else
        ref27_remainder_J5 N d vi x16 k (ref27_remainder_L4 N d vi x16 m) c_3
    else
      some c_3
def ref27_remainder_L2 (N : Nat) (d : List Int) : Nat → Int → Int → Option Int
  | 0, _, _ => none
  | m + 1, c_1, vi =>
    if decide (vi < (d.length : Int)) then
      (shr .u32 c_1 25).bind fun x16 =>
      (shl .u32 (bits .and .u32 c_1 33554431) 5).bind fun x19 =>
      (idx d vi).bind fun x22 =>
      (ref27_remainder_L4 N d vi x16 N (bits .xor .u32 x19 (IntKind.u32.wrap x22)) 0).bind fun p4 =>
      ref27_remainder_J3 N d vi (ref27_remainder_L2 N d m) p4
    else
      some c_1
def ref27_remainder (N : Nat) (d : List Int) : Option Int :=
  (ref27_remainder_L2 N d N 1 0).bind fun p2 =>
  ref27_remainder_J1 N p2
def ref27_Checksum_J4 (N : Nat) (l1_3 : List Int) : Option (List Int) :=
  (arr 6 l1_3).bind fun q =>
  some l1_3
def ref27_Checksum_L5 (N : Nat) (x58 : Int) : Nat → Int → (List Int) → Option (List Int)
  | 0, _, _ => none
  | m + 1, vi, l1_4 =>
    if decide (vi < 6) then
      (shr .u32 (bits .xor .u32 x58 1) (IntKind.u64.wrap (IntKind.i64.wrap (25 - (IntKind.i64.wrap (5 * vi)))))).bind fun x70 =>
      (aix 6 l1_4 vi).bind fun x73 =>
      (ref27_Checksum_L5 N x58 m) (IntKind.i64.wrap (vi + 1)) (l1_4.set (Int.toNat vi) (IntKind.u8.wrap (bits .and .u32 x70 31)))
    else
      some l1_4
def ref27_Checksum_J3 (N : Nat) (l1_2 : List Int) : Option (List Int) :=
  (app 1 l1_2 [0, 0, 0, 0, 0, 0]).bind fun x57 =>
  (ref27_remainder N x57).bind fun x58 =>
  (ref27_Checksum_L5 N x58 N 0 (List.replicate 6 0)).bind fun p5 =>
  ref27_Checksum_J4 N p5
def ref27_Checksum_L6 (N : Nat) (d : List Int) : Nat → Int → (List Int) → Option (List Int)
  | 0, _, _ => none
  | m + 1, vi_1, l1_5 =>
    if decide (vi_1 < (d.length : Int)) then
      (idx d vi_1).bind fun x50 =>
      (app 1 l1_5 [bits .and .u8 x50 31]).bind fun x54 =>
      (ref27_Checksum_L6 N d m) (IntKind.i64.wrap (vi_1 + 1)) x54
    else
      some l1_5
def ref27_Checksum_J2 (N : Nat) (d : List Int) (l1_1 : List Int) : Option (List Int) :=
  (ref27_Checksum_L6 N d N 0 l1_1).bind fun p6 =>
  ref27_Checksum_J3 N p6
def ref27_Checksum_L7 (N : Nat) (vprefix : ByteArray) (d : List Int) : Nat → Int → (List Int) → Option (List Int)
  | 0, _, _ => none
  | m + 1, vi_2, l1_6 =>
    if decide (vi_2 < (vprefix.size : Int)) then
      (sidx vprefix vi_2).bind fun x37 =>
      (app 1 l1_6 [bits .and .u8 x37 31]).bind fun x40 =>
      (ref27_Checksum_L7 N vprefix d m) (IntKind.i64.wrap (vi_2 + 1)) x40
    else
      some l1_6
def ref27_Checksum_J1 (N : Nat) (vprefix : ByteArray) (d : List Int) (l1 : List Int) : Option (List Int) :=
  (app 1 l1 [0]).bind fun x27 =>
  (ref27_Checksum_L7 N vprefix d N 0 x27).bind fun p7 =>
  ref27_Checksum_J2 N d p7
def ref27_Checksum_L8 (N : Nat) (vprefix : ByteArray) (d : List Int) : Nat → Int → (List Int) → Option (List Int)
  | 0, _, _ => none
  | m + 1, vi_3, l1_7 =>
    if decide (vi_3 < (vprefix.size : Int)) then
      (sidx vprefix vi_3).bind fun x21 =>
      (shr .u8 x21 5).bind fun x22 =>
      (app 1 l1_7 [x22]).bind fun x24 =>
      (ref27_Checksum_L8 N vprefix d m) (IntKind.i64.wrap (vi_3 + 1)) x24
    else
      some l1_7
def ref27_Checksum (N : Nat) (vprefix : ByteArray) (d : List Int) : Option (List Int) :=
  (ref27_Checksum_L8 N vprefix d N 0 []).bind fun p8 =>
  ref27_Checksum_J1 N vprefix d p8
def mill_Mod_J1 (N : Nat) (vr : Int) : Option Int :=
  some vr
def mill_Mod (N : Nat) (v : Int) (vn : Int) : Option Int :=
  (rem v vn).bind fun x8 =>
  if decide (x8 < 0) then
    mill_Mod_J1 N (IntKind.i64.wrap (x8 + vn))
  else
    mill_Mod_J1 N x8
def law27_prefix (N : Nat) (vn : Int) : Option ByteArray :=
  (mill_Mod N vn 5).bind fun x5 =>
  (idx [⟨#[108, 99]⟩, ⟨#[97]⟩, ⟨#[97, 98, 99, 100, 101, 102, 103, 104, 105, 106]⟩, ⟨#[122]⟩, ⟨#[116, 108, 99]⟩] x5).bind fun x6 =>
  some x6
def law27_AddressSums_J2 (N : Nat) (x6 : Bool) : Option Bool :=
  some x6
def law27_AddressSums_J1 (N : Nat) (vs : ByteArray) (vn : Int) (d : List Int) (x16 : Bool) : Option Bool :=
  if x16 then
    some true
  else
    (address_Checksum N vs d).bind fun x19 =>
    (ref27_Checksum N vs d).bind fun x22 =>
    (arr 6 x19).bind fun q =>
    (arr 6 x22).bind fun q_1 =>
    if x19 == x22 then
      (law27_prefix N vn).bind fun x26 =>
      (address_Checksum N x26 d).bind fun x28 =>
      (ref27_Checksum N x26 d).bind fun x32 =>
      (arr 6 x28).bind fun q_2 =>
      (arr 6 x32).bind fun q_3 =>
      law27_AddressSums_J2 N (x28 == x32)
    else
      law27_AddressSums_J2 N false
def law27_AddressSums (N : Nat) (vs : ByteArray) (vn : Int) (d : List Int) : Option Bool :=
  (law27_sane N).bind fun x7 =>
  if !x7 then
    some false
  else
    if decide (30 < (vs.size : Int)) then
      law27_AddressSums_J1 N vs vn d true
    else
      law27_AddressSums_J1 N vs vn d (decide (200 < (d.length : Int)))
def address_Prefix_J2 (N : Nat) (x2 : Bool) : Option Bool :=
  some x2
def address_Prefix_J1 (N : Nat) (vs : ByteArray) : Option Bool :=
  if decide (1 ≤ (vs.size : Int)) then
    address_Prefix_J2 N (decide ((vs.size : Int) ≤ 10))
  else
    address_Prefix_J2 N false
def address_Prefix_J4 (N : Nat) (vs : ByteArray) (x6 : Int) (rec : Int → Option (LR (Unit) (Bool))) (x18 : Bool) : Option (LR (Unit) (Bool)) :=
  if x18 then
    some (.ret false)
  else
    rec (IntKind.i64.wrap (x6 + 1))
def address_Prefix_L3 (N : Nat) (vs : ByteArray) : Nat → Int → Option (LR (Unit) (Bool))
  | 0, _ => none
  | m + 1, x6 =>
    if decide (x6 < (vs.size : Int)) then
      (sidx vs x6).bind fun x11 =>
      if decide (x11 < 97) then
        address_Prefix_J4 N vs x6 (address_Prefix_L3 N vs m) true
      else
        address_Prefix_J4 N vs x6 (address_Prefix_L3 N vs m) (decide (122 < x11))
    else
      some (.brk ())
def address_Prefix (N : Nat) (vs : ByteArray) : Option Bool :=
  (address_Prefix_L3 N vs N 0).bind fun q => match q with
    | .ret v => some v
    | .brk p3 =>
      address_Prefix_J1 N vs
def address_Encode_J1 (N : Nat) (l0 : List Int) : Option (ByteArray × Int) :=
  some (strOf l0, 0)
def address_Encode_L2 (N : Nat) (x27 : List Int) : Nat → Int → (List Int) → Option (List Int)
  | 0, _, _ => none
  | m + 1, x29, l0_1 =>
    if decide (x29 < (x27.length : Int)) then
      (idx x27 x29).bind fun x31 =>
      (sidx (⟨#[113, 112, 122, 114, 121, 57, 120, 56, 103, 102, 50, 116, 118, 100, 119, 48, 115, 51, 106, 110, 53, 52, 107, 104, 99, 101, 54, 109, 117, 97, 55, 108]⟩) x31).bind fun x35 =>
      (app 1 l0_1 [x35]).bind fun x37 =>
      (address_Encode_L2 N x27 m) (IntKind.i64.wrap (x29 + 1)) x37
    else
      some l0_1
def address_Encode (N : Nat) (vprefix : ByteArray) (b : List Int) : Option (ByteArray × Int) :=
  (address_Prefix N vprefix).bind fun x12 =>
  if !x12 then
    some (.empty, 270)
  else
    if decide (100 < (b.length : Int)) then
      some (.empty, 4)
    else
      (address_Convert N b).bind fun x18 =>
      (address_Checksum N vprefix x18).bind fun x21 =>
      (arr 6 x21).bind fun q =>
      (cat vprefix (⟨#[49]⟩)).bind fun x23 =>
      (stb x23).bind fun x24 =>
      (app 1 x18 x21).bind fun x27 =>
      (address_Encode_L2 N x27 N 0 x24).bind fun p2 =>
      address_Encode_J1 N p2
def ref27_Prefix_J2 (N : Nat) (x2 : Bool) : Option Bool :=
  some x2
def ref27_Prefix_J1 (N : Nat) (vs : ByteArray) : Option Bool :=
  if decide (1 ≤ (vs.size : Int)) then
    ref27_Prefix_J2 N (decide ((vs.size : Int) ≤ 10))
  else
    ref27_Prefix_J2 N false
def ref27_Prefix_J4 (N : Nat) (vs : ByteArray) (vi : Int) (rec : Int → Option (LR (Unit) (Bool))) (x19 : Bool) : Option (LR (Unit) (Bool)) :=
  if x19 then
    some (.ret false)
  else
    rec (IntKind.i64.wrap (vi + 1))
def ref27_Prefix_L3 (N : Nat) (vs : ByteArray) : Nat → Int → Option (LR (Unit) (Bool))
  | 0, _ => none
  | m + 1, vi =>
    if decide (vi < (vs.size : Int)) then
      (sidx vs vi).bind fun x12 =>
      if decide (x12 < 97) then
        ref27_Prefix_J4 N vs vi (ref27_Prefix_L3 N vs m) true
      else
        ref27_Prefix_J4 N vs vi (ref27_Prefix_L3 N vs m) (decide (122 < x12))
    else
      some (.brk ())
def ref27_Prefix (N : Nat) (vs : ByteArray) : Option Bool :=
  (ref27_Prefix_L3 N vs N 0).bind fun q => match q with
    | .ret v => some v
    | .brk p3 =>
      ref27_Prefix_J1 N vs
def ref27_Convert_J1 (N : Nat) (l0 : List Int) : Option (List Int) :=
  some l0
def ref27_Convert_J3 (N : Nat) (b : List Int) (vat : Int) (rec : Int → (List Int) → Option (List Int)) (l0_2 : List Int) : Option (List Int) :=
  rec (IntKind.i64.wrap (vat + 5)) l0_2
def ref27_Convert_J4 (N : Nat) (b : List Int) (vat : Int) (l0_1 : List Int) (rec : Int → (List Int) → Option (List Int)) (d : Int) : Option (List Int) :=
  (app 1 l0_1 [d]).bind fun x44 =>
  ref27_Convert_J3 N b vat rec x44
def ref27_Convert_J6 (N : Nat) (b : List Int) (vat : Int) (l0_1 : List Int) (vi : Int) (rec : Int → Int → Option Int) (d_2 : Int) : Option Int :=
  rec d_2 (IntKind.i64.wrap (vi + 1))
def ref27_Convert_L5 (N : Nat) (b : List Int) (vat : Int) (l0_1 : List Int) : Nat → Int → Int → Option Int
  | 0, _, _ => none
  | m + 1, d_1, vi =>
    if decide (vi < (IntKind.i64.wrap (vat + 5))) then
      (shl .u8 d_1 1).bind fun x22 =>
      if decide (vi < (IntKind.i64.wrap (8 * (b.length : Int)))) then
        (idx b (IntKind.i64.wrap (Int.tdiv vi 8))).bind fun x32 =>
        (shr .u8 x32 (IntKind.u64.wrap (IntKind.i64.wrap (7 - (Int.tmod vi 8))))).bind fun x38 =>
        ref27_Convert_J6 N b vat l0_1 vi (ref27_Convert_L5 N b vat l0_1 m) (bits .or .u8 x22 (bits .and .u8 x38 1))
      else
        ref27_Convert_J6 N b vat l0_1 vi (ref27_Convert_L5 N b vat l0_1 m) x22
    else
      some d_1
def ref27_Convert_L2 (N : Nat) (b : List Int) : Nat → Int → (List Int) → Option (List Int)
  | 0, _, _ => none
  | m + 1, vat, l0_1 =>
    if decide (vat < (IntKind.i64.wrap (8 * (b.length : Int)))) then
      (ref27_Convert_L5 N b vat l0_1 N 0 vat).bind fun p5 =>
      ref27_Convert_J4 N b vat l0_1 (ref27_Convert_L2 N b m) p5
    else
      some l0_1
def ref27_Convert (N : Nat) (b : List Int) : Option (List Int) :=
  (ref27_Convert_L2 N b N 0 []).bind fun p2 =>
  ref27_Convert_J1 N p2
def ref27_Encode_J1 (N : Nat) (vs : ByteArray) : Option (ByteArray × Int) :=
  some (vs, 0)
def ref27_Encode_L2 (N : Nat) (x23 : List Int) : Nat → ByteArray → Int → Option ByteArray
  | 0, _, _ => none
  | m + 1, vs_1, vi =>
    if decide (vi < (x23.length : Int)) then
      (idx x23 vi).bind fun x35 =>
      (ssub (⟨#[113, 112, 122, 114, 121, 57, 120, 56, 103, 102, 50, 116, 118, 100, 119, 48, 115, 51, 106, 110, 53, 52, 107, 104, 99, 101, 54, 109, 117, 97, 55, 108]⟩) x35 (IntKind.u8.wrap (x35 + 1))).bind fun x42 =>
      (cat vs_1 x42).bind fun x43 =>
      (ref27_Encode_L2 N x23 m) x43 (IntKind.i64.wrap (vi + 1))
    else
      some vs_1
def ref27_Encode (N : Nat) (vprefix : ByteArray) (b : List Int) : Option (ByteArray × Int) :=
  (ref27_Prefix N vprefix).bind fun x11 =>
  if !x11 then
    some (.empty, 270)
  else
    if decide (100 < (b.length : Int)) then
      some (.empty, 4)
    else
      (ref27_Convert N b).bind fun x17 =>
      (ref27_Checksum N vprefix x17).bind fun x20 =>
      (arr 6 x20).bind fun q =>
      (app 1 x17 x20).bind fun x23 =>
      (cat vprefix (⟨#[49]⟩)).bind fun x25 =>
      (ref27_Encode_L2 N x23 N x25 0).bind fun p2 =>
      ref27_Encode_J1 N p2
def law27_AddressEncodes_J2 (N : Nat) : Option Bool :=
  some true
def law27_AddressEncodes_J4 (N : Nat) (vs : ByteArray) (b : List Int) (x25 : ByteArray) (x28 : Int) (rec : Int → Option (LR (Unit) (Bool))) (x51 : Bool) : Option (LR (Unit) (Bool)) :=
  if x51 then
    some (.ret false)
  else
    rec (IntKind.i64.wrap (x28 + 1))
def law27_AddressEncodes_L3 (N : Nat) (vs : ByteArray) (b : List Int) (x25 : ByteArray) : Nat → Int → Option (LR (Unit) (Bool))
  | 0, _ => none
  | m + 1, x28 =>
    if decide (x28 < (2 : Int)) then
      (idx [vs, x25] x28).bind fun x30 =>
      (address_Encode N x30 b).bind fun x35 =>
      (ref27_Encode N x30 b).bind fun x41 =>
      if !(x35.1.toList == x41.1.toList) then
        law27_AddressEncodes_J4 N vs b x25 x28 (law27_AddressEncodes_L3 N vs b x25 m) true
      else
        law27_AddressEncodes_J4 N vs b x25 x28 (law27_AddressEncodes_L3 N vs b x25 m) (x35.2 != x41.2)
    else
      some (.brk ())
def law27_AddressEncodes_J1 (N : Nat) (vs : ByteArray) (vn : Int) (b : List Int) (x22 : Bool) : Option Bool :=
  if x22 then
    some true
  else
    (law27_prefix N vn).bind fun x25 =>
    (law27_AddressEncodes_L3 N vs b x25 N 0).bind fun q => match q with
      | .ret v => some v
      | .brk p3 =>
        law27_AddressEncodes_J2 N
def law27_AddressEncodes (N : Nat) (vs : ByteArray) (vn : Int) (b : List Int) : Option Bool :=
  (law27_sane N).bind fun x13 =>
  if !x13 then
    some false
  else
    if decide (30 < (vs.size : Int)) then
      law27_AddressEncodes_J1 N vs vn b true
    else
      law27_AddressEncodes_J1 N vs vn b (decide (130 < (b.length : Int)))
def address_small_J2 (N : Nat) (l0 : List Int) (x3 : Bool) : Option (ByteArray × Bool) :=
  some (strOf l0, x3)
def address_small_J1 (N : Nat) (lower : Bool) (upper : Bool) (l0 : List Int) : Option (ByteArray × Bool) :=
  if lower then
    address_small_J2 N l0 upper
  else
    address_small_J2 N l0 false
def address_small_J4 (N : Nat) (x10 : List Int) (x13 : Int) (rec : Bool → Bool → Int → (List Int) → Option (Bool × Bool × (List Int))) (lower_2 : Bool) (upper_2 : Bool) (l0_2 : List Int) : Option (Bool × Bool × (List Int)) :=
  rec lower_2 upper_2 (IntKind.i64.wrap (x13 + 1)) l0_2
def address_small_J6 (N : Nat) (x10 : List Int) (lower_1 : Bool) (upper_1 : Bool) (x13 : Int) (l0_1 : List Int) (x16 : Int) (rec : Bool → Bool → Int → (List Int) → Option (Bool × Bool × (List Int))) (x25 : Bool) : Option (Bool × Bool × (List Int)) :=
  if x25 then
    address_small_J4 N x10 x13 rec lower_1 true (l0_1.set (Int.toNat x13) (IntKind.u8.wrap ((IntKind.u8.wrap (x16 - 65)) + 97)))
  else
    address_small_J4 N x10 x13 rec lower_1 upper_1 l0_1
def address_small_J5 (N : Nat) (x10 : List Int) (lower_1 : Bool) (upper_1 : Bool) (x13 : Int) (l0_1 : List Int) (x16 : Int) (rec : Bool → Bool → Int → (List Int) → Option (Bool × Bool × (List Int))) (x18 : Bool) : Option (Bool × Bool × (List Int)) :=
  if x18 then
    address_small_J4 N x10 x13 rec true upper_1 l0_1
  else
    if decide (65 ≤ x16) then
      address_small_J6 N x10 lower_1 upper_1 x13 l0_1 x16 rec (decide (x16 ≤ 90))
    else
      address_small_J6 N x10 lower_1 upper_1 x13 l0_1 x16 rec false
def address_small_L3 (N : Nat) (x10 : List Int) : Nat → Bool → Bool → Int → (List Int) → Option (Bool × Bool × (List Int))
  | 0, _, _, _, _ => none
  | m + 1, lower_1, upper_1, x13, l0_1 =>
    if decide (x13 < (x10.length : Int)) then
      (idx l0_1 x13).bind fun x16 =>
      if decide (97 ≤ x16) then
        address_small_J5 N x10 lower_1 upper_1 x13 l0_1 x16 (address_small_L3 N x10 m) (decide (x16 ≤ 122))
      else
        address_small_J5 N x10 lower_1 upper_1 x13 l0_1 x16 (address_small_L3 N x10 m) false
    else
      some (lower_1, upper_1, l0_1)
def address_small (N : Nat) (vs : ByteArray) : Option (ByteArray × Bool) :=
  (stb vs).bind fun x10 =>
  (address_small_L3 N x10 N false false 0 x10).bind fun p3 =>
  address_small_J1 N p3.1 p3.2.1 p3.2.2
def internal_stringslite_HasPrefix_J1 (N : Nat) (x4 : Bool) : Option Bool :=
  some x4
def internal_stringslite_HasPrefix (N : Nat) (vs : ByteArray) (vprefix : ByteArray) : Option Bool :=
  if decide ((vprefix.size : Int) ≤ (vs.size : Int)) then
    (ssub vs 0 (vprefix.size : Int)).bind fun x14 =>
    internal_stringslite_HasPrefix_J1 N (x14.toList == vprefix.toList)
  else
    internal_stringslite_HasPrefix_J1 N false
def internal_stringslite_CutPrefix (N : Nat) (vs : ByteArray) (vprefix : ByteArray) : Option (ByteArray × Bool) :=
  (internal_stringslite_HasPrefix N vs vprefix).bind fun x8 =>
  if !x8 then
    some (vs, false)
  else
    (ssub vs (vprefix.size : Int) (vs.size : Int)).bind fun x14 =>
    some (x14, true)
def strings_CutPrefix (N : Nat) (vs : ByteArray) (vprefix : ByteArray) : Option (ByteArray × Bool) :=
  (internal_stringslite_CutPrefix N vs vprefix).bind fun x8 =>
  some (x8.1, x8.2)
def bytealg_IndexByteString (N : Nat) (s : ByteArray) (c : Int) : Option Int := some (ixb s c)
def internal_stringslite_IndexByte (N : Nat) (vs : ByteArray) (c : Int) : Option Int :=
  (bytealg_IndexByteString N vs c).bind fun x7 =>
  some x7
def strings_IndexByte (N : Nat) (vs : ByteArray) (c : Int) : Option Int :=
  (internal_stringslite_IndexByte N vs c).bind fun x7 =>
  some x7
def address_Decode_J1 (N : Nat) (vprefix : ByteArray) (l0 : List Int) : Option ((List Int) × Int) :=
  (sub l0 0 (IntKind.i64.wrap ((l0.length : Int) - 6))).bind fun x67 =>
  (address_Checksum N vprefix x67).bind fun x68 =>
  (sub l0 (IntKind.i64.wrap ((l0.length : Int) - 6)) (l0.length : Int)).bind fun x71 =>
  (arp 6 x71).bind fun x72 =>
  (arr 6 x68).bind fun q =>
  if !(x68 == x72) then
    some ([], 241)
  else
    (address_Back N x67).bind fun x78 =>
    some (x78.1, x78.2)
def address_Decode_L2 (N : Nat) (vprefix : ByteArray) (x33 : ByteArray × Bool) : Nat → Int → (List Int) → Option (LR ((List Int)) ((List Int) × Int))
  | 0, _, _ => none
  | m + 1, x46, l0_1 =>
    if decide (x46 < (x33.1.size : Int)) then
      (sidx x33.1 x46).bind fun x51 =>
      (strings_IndexByte N (⟨#[113, 112, 122, 114, 121, 57, 120, 56, 103, 102, 50, 116, 118, 100, 119, 48, 115, 51, 106, 110, 53, 52, 107, 104, 99, 101, 54, 109, 117, 97, 55, 108]⟩) x51).bind fun x52 =>
      if decide (x52 < 0) then
        some (.ret ([], 7))
      else
        (idx l0_1 x46).bind fun x59 =>
        (address_Decode_L2 N vprefix x33 m) (IntKind.i64.wrap (x46 + 1)) (l0_1.set (Int.toNat x46) (IntKind.u8.wrap x52))
    else
      some (.brk l0_1)
def address_Decode (N : Nat) (vprefix : ByteArray) (vs : ByteArray) : Option ((List Int) × Int) :=
  (address_Prefix N vprefix).bind fun x14 =>
  if !x14 then
    some ([], 270)
  else
    if decide ((IntKind.i64.wrap ((IntKind.i64.wrap ((vprefix.size : Int) + 1)) + 166)) < (vs.size : Int)) then
      some ([], 4)
    else
      (address_small N vs).bind fun x25 =>
      if x25.2 then
        some ([], 271)
      else
        (cat vprefix (⟨#[49]⟩)).bind fun x32 =>
        (strings_CutPrefix N x25.1 x32).bind fun x33 =>
        if !x33.2 then
          some ([], 270)
        else
          if decide ((x33.1.size : Int) < 6) then
            some ([], 1)
          else
            (mks 1 0 (x33.1.size : Int)).bind fun x43 =>
            (address_Decode_L2 N vprefix x33 N 0 x43).bind fun q => match q with
              | .ret v => some v
              | .brk p2 =>
                address_Decode_J1 N vprefix p2
def ref27_small_J2 (N : Nat) (l0 : List Int) (x3 : Bool) : Option (ByteArray × Bool) :=
  some (strOf l0, x3)
def ref27_small_J1 (N : Nat) (low : Bool) (high : Bool) (l0 : List Int) : Option (ByteArray × Bool) :=
  if low then
    ref27_small_J2 N l0 high
  else
    ref27_small_J2 N l0 false
def ref27_small_J4 (N : Nat) (vi : Int) (rec : Bool → Bool → Int → (List Int) → Option (Bool × Bool × (List Int))) (low_2 : Bool) (high_2 : Bool) (l0_2 : List Int) : Option (Bool × Bool × (List Int)) :=
  rec low_2 high_2 (IntKind.i64.wrap (vi + 1)) l0_2
def ref27_small_J6 (N : Nat) (high_1 : Bool) (vi : Int) (l0_1 : List Int) (low_3 : Bool) (rec : Bool → Bool → Int → (List Int) → Option (Bool × Bool × (List Int))) (x42 : Bool) : Option (Bool × Bool × (List Int)) :=
  if x42 then
    (idx l0_1 vi).bind fun x47 =>
    ref27_small_J4 N vi rec low_3 true (l0_1.set (Int.toNat vi) (IntKind.u8.wrap (x47 + 32)))
  else
    ref27_small_J4 N vi rec low_3 high_1 l0_1
def ref27_small_J5 (N : Nat) (high_1 : Bool) (vi : Int) (l0_1 : List Int) (rec : Bool → Bool → Int → (List Int) → Option (Bool × Bool × (List Int))) (low_3 : Bool) : Option (Bool × Bool × (List Int)) :=
  (idx l0_1 vi).bind fun x33 =>
  if decide (65 ≤ x33) then
    ref27_small_J6 N high_1 vi l0_1 low_3 rec (decide (x33 ≤ 90))
  else
    ref27_small_J6 N high_1 vi l0_1 low_3 rec false
def ref27_small_L3 (N : Nat) : Nat → Bool → Bool → Int → (List Int) → Option (Bool × Bool × (List Int))
  | 0, _, _, _, _ => none
  | m + 1, low_1, high_1, vi, l0_1 =>
    if decide (vi < (l0_1.length : Int)) then
      if low_1 then
        ref27_small_J5 N high_1 vi l0_1 (ref27_small_L3 N m) true
      else
        (idx l0_1 vi).bind fun x20 =>
        if decide (97 ≤ x20) then
          ref27_small_J5 N high_1 vi l0_1 (ref27_small_L3 N m) (decide (x20 ≤ 122))
        else
          ref27_small_J5 N high_1 vi l0_1 (ref27_small_L3 N m) false
    else
      some (low_1, high_1, l0_1)
def ref27_small (N : Nat) (vs : ByteArray) : Option (ByteArray × Bool) :=
  (stb vs).bind fun x9 =>
  (ref27_small_L3 N N false false 0 x9).bind fun p3 =>
  ref27_small_J1 N p3.1 p3.2.1 p3.2.2
def ref27_digit_J1 (N : Nat) : Option Int :=
  some (-1)
def ref27_digit_L2 (N : Nat) (c : Int) : Nat → Int → Option (LR (Unit) (Int))
  | 0, _ => none
  | m + 1, vi =>
    if decide (vi < 32) then
      (sidx (⟨#[113, 112, 122, 114, 121, 57, 120, 56, 103, 102, 50, 116, 118, 100, 119, 48, 115, 51, 106, 110, 53, 52, 107, 104, 99, 101, 54, 109, 117, 97, 55, 108]⟩) vi).bind fun x9 =>
      if x9 == c then
        some (.ret vi)
      else
        (ref27_digit_L2 N c m) (IntKind.i64.wrap (vi + 1))
    else
      some (.brk ())
def ref27_digit (N : Nat) (c : Int) : Option Int :=
  (ref27_digit_L2 N c N 0).bind fun q => match q with
    | .ret v => some v
    | .brk p2 =>
      ref27_digit_J1 N
def ref27_Back_J2 (N : Nat) (d : List Int) (l0 : List Int) : Option ((List Int) × Int) :=
  if decide (5 ≤ (IntKind.i64.wrap ((IntKind.i64.wrap (5 * (d.length : Int))) - (IntKind.i64.wrap (8 * (l0.length : Int)))))) then
    some ([], 3)
  else
    some (l0, 0)
def ref27_Back_J4 (N : Nat) (d : List Int) (vi : Int) (rec : Int → (List Int) → Option (LR ((List Int)) ((List Int) × Int))) (l0_2 : List Int) : Option (LR ((List Int)) ((List Int) × Int)) :=
  rec (IntKind.i64.wrap (vi + 1)) l0_2
def ref27_Back_L3 (N : Nat) (d : List Int) : Nat → Int → (List Int) → Option (LR ((List Int)) ((List Int) × Int))
  | 0, _, _ => none
  | m + 1, vi, l0_1 =>
    if decide (vi < (IntKind.i64.wrap (5 * (d.length : Int)))) then
      (idx d (IntKind.i64.wrap (Int.tdiv vi 5))).bind fun x34 =>
      (shr .u8 x34 (IntKind.u64.wrap (IntKind.i64.wrap (4 - (Int.tmod vi 5))))).bind fun x40 =>
      if decide (vi < (IntKind.i64.wrap (8 * (l0_1.length : Int)))) then
        (idx l0_1 (IntKind.i64.wrap (Int.tdiv vi 8))).bind fun x53 =>
        (shl .u8 (bits .and .u8 x40 1) (IntKind.u64.wrap (IntKind.i64.wrap (7 - (Int.tmod vi 8))))).bind fun x60 =>
        ref27_Back_J4 N d vi (ref27_Back_L3 N d m) (l0_1.set (Int.toNat (IntKind.i64.wrap (Int.tdiv vi 8))) (bits .or .u8 x53 x60))
      else
        if (bits .and .u8 x40 1) != 0 then
          some (.ret ([], 3))
        else
          ref27_Back_J4 N d vi (ref27_Back_L3 N d m) l0_1
    else
      some (.brk l0_1)
def ref27_Back_J1 (N : Nat) (d : List Int) : Option ((List Int) × Int) :=
  (mks 1 0 (IntKind.i64.wrap (Int.tdiv (IntKind.i64.wrap (5 * (d.length : Int))) 8))).bind fun x23 =>
  (ref27_Back_L3 N d N 0 x23).bind fun q => match q with
    | .ret v => some v
    | .brk p3 =>
      ref27_Back_J2 N d p3
def ref27_Back_L5 (N : Nat) (d : List Int) : Nat → Int → Option (LR (Unit) ((List Int) × Int))
  | 0, _ => none
  | m + 1, vi_1 =>
    if decide (vi_1 < (d.length : Int)) then
      (idx d vi_1).bind fun x16 =>
      if decide (31 < x16) then
        some (.ret ([], 5))
      else
        (ref27_Back_L5 N d m) (IntKind.i64.wrap (vi_1 + 1))
    else
      some (.brk ())
def ref27_Back (N : Nat) (d : List Int) : Option ((List Int) × Int) :=
  (ref27_Back_L5 N d N 0).bind fun q => match q with
    | .ret v => some v
    | .brk p5 =>
      ref27_Back_J1 N d
def ref27_Decode_J3 (N : Nat) (l0 : List Int) : Option ((List Int) × Int) :=
  (sub l0 0 (IntKind.i64.wrap ((l0.length : Int) - 6))).bind fun x92 =>
  (ref27_Back N x92).bind fun x93 =>
  some (x93.1, x93.2)
def ref27_Decode_L4 (N : Nat) (l0 : List Int) (x75 : (List Int)) : Nat → Int → Option (LR (Unit) ((List Int) × Int))
  | 0, _ => none
  | m + 1, vi =>
    if decide (vi < 6) then
      (aix 6 x75 vi).bind fun x81 =>
      (idx l0 (IntKind.i64.wrap ((IntKind.i64.wrap ((l0.length : Int) - 6)) + vi))).bind fun x87 =>
      if x81 != x87 then
        some (.ret ([], 241))
      else
        (ref27_Decode_L4 N l0 x75 m) (IntKind.i64.wrap (vi + 1))
    else
      some (.brk ())
def ref27_Decode_J2 (N : Nat) (vprefix : ByteArray) (l0 : List Int) : Option ((List Int) × Int) :=
  (sub l0 0 (IntKind.i64.wrap ((l0.length : Int) - 6))).bind fun x74 =>
  (ref27_Checksum N vprefix x74).bind fun x75 =>
  (arr 6 x75).bind fun q =>
  (ref27_Decode_L4 N l0 x75 N 0).bind fun q => match q with
    | .ret v => some v
    | .brk p4 =>
      ref27_Decode_J3 N l0
def ref27_Decode_L5 (N : Nat) (vprefix : ByteArray) (x26 : ByteArray × Bool) : Nat → Int → (List Int) → Option (LR ((List Int)) ((List Int) × Int))
  | 0, _, _ => none
  | m + 1, vi_1, l0_1 =>
    if decide (vi_1 < (x26.1.size : Int)) then
      (sidx x26.1 vi_1).bind fun x59 =>
      (ref27_digit N x59).bind fun x60 =>
      if decide (x60 < 0) then
        some (.ret ([], 7))
      else
        (app 1 l0_1 [IntKind.u8.wrap x60]).bind fun x67 =>
        (ref27_Decode_L5 N vprefix x26 m) (IntKind.i64.wrap (vi_1 + 1)) x67
    else
      some (.brk l0_1)
def ref27_Decode_J1 (N : Nat) (vprefix : ByteArray) (x26 : ByteArray × Bool) (x44 : Bool) : Option ((List Int) × Int) :=
  if x44 then
    some ([], 270)
  else
    if decide ((IntKind.i64.wrap ((x26.1.size : Int) - (IntKind.i64.wrap ((vprefix.size : Int) + 1)))) < 6) then
      some ([], 1)
    else
      (ref27_Decode_L5 N vprefix x26 N (IntKind.i64.wrap ((vprefix.size : Int) + 1)) []).bind fun q => match q with
        | .ret v => some v
        | .brk p5 =>
          ref27_Decode_J2 N vprefix p5
def ref27_Decode (N : Nat) (vprefix : ByteArray) (vs : ByteArray) : Option ((List Int) × Int) :=
  (ref27_Prefix N vprefix).bind fun x16 =>
  if !x16 then
    some ([], 270)
  else
    if decide ((IntKind.i64.wrap ((vprefix.size : Int) + 167)) < (vs.size : Int)) then
      some ([], 4)
    else
      (ref27_small N vs).bind fun x26 =>
      if x26.2 then
        some ([], 271)
      else
        if decide ((x26.1.size : Int) < (IntKind.i64.wrap ((vprefix.size : Int) + 1))) then
          ref27_Decode_J1 N vprefix x26 true
        else
          (ssub x26.1 0 (IntKind.i64.wrap ((vprefix.size : Int) + 1))).bind fun x40 =>
          (cat vprefix (⟨#[49]⟩)).bind fun x42 =>
          ref27_Decode_J1 N vprefix x26 (!(x40.toList == x42.toList))
def ref01_Same (N : Nat) (va : List Int) (b : List Int) : Option Bool :=
  some ((strOf va).toList == (strOf b).toList)
def law27_AddressDecodes_J2 (N : Nat) : Option Bool :=
  some true
def law27_AddressDecodes_J4 (N : Nat) (vs : ByteArray) (vby : Int) (x32 : ByteArray) (x40 : List Int) (x45 : Int) (x53 : ByteArray) (x62 : ByteArray) (x65 : ByteArray) (x68 : Int) (rec : Int → Option (LR (Unit) (Bool))) (x92 : Bool) : Option (LR (Unit) (Bool)) :=
  if x92 then
    some (.ret false)
  else
    rec (IntKind.i64.wrap (x68 + 1))
def law27_AddressDecodes_L3 (N : Nat) (vs : ByteArray) (vby : Int) (x32 : ByteArray) (x40 : List Int) (x45 : Int) (x53 : ByteArray) (x62 : ByteArray) (x65 : ByteArray) : Nat → Int → Option (LR (Unit) (Bool))
  | 0, _ => none
  | m + 1, x68 =>
    if decide (x68 < (5 : Int)) then
      (idx [vs, x53, strOf (x40.set (Int.toNat x45) (IntKind.u8.wrap vby)), x62, x65] x68).bind fun x70 =>
      (address_Decode N x32 x70).bind fun x75 =>
      (ref27_Decode N x32 x70).bind fun x81 =>
      if x75.2 != x81.2 then
        law27_AddressDecodes_J4 N vs vby x32 x40 x45 x53 x62 x65 x68 (law27_AddressDecodes_L3 N vs vby x32 x40 x45 x53 x62 x65 m) true
      else
        (ref01_Same N x75.1 x81.1).bind fun x90 =>
        law27_AddressDecodes_J4 N vs vby x32 x40 x45 x53 x62 x65 x68 (law27_AddressDecodes_L3 N vs vby x32 x40 x45 x53 x62 x65 m) (!x90)
    else
      some (.brk ())
def law27_AddressDecodes_J1 (N : Nat) (vs : ByteArray) (vn : Int) (b : List Int) (vat : Int) (vby : Int) (x30 : Bool) : Option Bool :=
  if x30 then
    some true
  else
    (law27_prefix N vn).bind fun x32 =>
    (ref27_Encode N x32 b).bind fun x36 =>
    (stb x36.1).bind fun x40 =>
    (mill_Mod N vat (x40.length : Int)).bind fun x45 =>
    (idx x40 x45).bind fun x48 =>
    (cat x32 (⟨#[49]⟩)).bind fun x51 =>
    (cat x51 vs).bind fun x53 =>
    (mill_Mod N vat (IntKind.i64.wrap ((x36.1.size : Int) + 1))).bind fun x61 =>
    (ssub x36.1 0 x61).bind fun x62 =>
    (cat x36.1 x36.1).bind fun x65 =>
    (law27_AddressDecodes_L3 N vs vby x32 x40 x45 x53 x62 x65 N 0).bind fun q => match q with
      | .ret v => some v
      | .brk p3 =>
        law27_AddressDecodes_J2 N
def law27_AddressDecodes (N : Nat) (vs : ByteArray) (vn : Int) (b : List Int) (vat : Int) (vby : Int) : Option Bool :=
  (law27_sane N).bind fun x21 =>
  if !x21 then
    some false
  else
    if decide (250 < (vs.size : Int)) then
      law27_AddressDecodes_J1 N vs vn b vat vby true
    else
      law27_AddressDecodes_J1 N vs vn b vat vby (decide (100 < (b.length : Int)))
def law27_AddressBack_J2 (N : Nat) (x4 : Bool) : Option Bool :=
  some x4
def law27_AddressBack_J1 (N : Nat) (b : List Int) (x20 : ByteArray) (x24 : ByteArray × Int) (l0 : List Int) : Option Bool :=
  (address_Decode N x20 x24.1).bind fun x58 =>
  (address_Decode N x20 (strOf l0)).bind fun x65 =>
  if x24.2 == 0 then
    if x58.2 == 0 then
      if x65.2 == 0 then
        (ref01_Same N x58.1 b).bind fun x81 =>
        if x81 then
          (ref01_Same N x65.1 b).bind fun x86 =>
          law27_AddressBack_J2 N x86
        else
          law27_AddressBack_J2 N false
      else
        law27_AddressBack_J2 N false
    else
      law27_AddressBack_J2 N false
  else
    law27_AddressBack_J2 N false
def law27_AddressBack_J4 (N : Nat) (b : List Int) (x20 : ByteArray) (x24 : ByteArray × Int) (x28 : List Int) (x31 : Int) (rec : Int → (List Int) → Option (List Int)) (l0_2 : List Int) : Option (List Int) :=
  rec (IntKind.i64.wrap (x31 + 1)) l0_2
def law27_AddressBack_J5 (N : Nat) (b : List Int) (x20 : ByteArray) (x24 : ByteArray × Int) (x28 : List Int) (x31 : Int) (l0_1 : List Int) (rec : Int → (List Int) → Option (List Int)) (x45 : Bool) : Option (List Int) :=
  if x45 then
    (idx l0_1 x31).bind fun x50 =>
    law27_AddressBack_J4 N b x20 x24 x28 x31 rec (l0_1.set (Int.toNat x31) (IntKind.u8.wrap (x50 - 32)))
  else
    law27_AddressBack_J4 N b x20 x24 x28 x31 rec l0_1
def law27_AddressBack_L3 (N : Nat) (b : List Int) (x20 : ByteArray) (x24 : ByteArray × Int) (x28 : List Int) : Nat → Int → (List Int) → Option (List Int)
  | 0, _, _ => none
  | m + 1, x31, l0_1 =>
    if decide (x31 < (x28.length : Int)) then
      (idx l0_1 x31).bind fun x36 =>
      if decide (97 ≤ x36) then
        law27_AddressBack_J5 N b x20 x24 x28 x31 l0_1 (law27_AddressBack_L3 N b x20 x24 x28 m) (decide (x36 ≤ 122))
      else
        law27_AddressBack_J5 N b x20 x24 x28 x31 l0_1 (law27_AddressBack_L3 N b x20 x24 x28 m) false
    else
      some l0_1
def law27_AddressBack (N : Nat) (vn : Int) (b : List Int) : Option Bool :=
  (law27_sane N).bind fun x14 =>
  if !x14 then
    some false
  else
    if decide (100 < (b.length : Int)) then
      some true
    else
      (law27_prefix N vn).bind fun x20 =>
      (address_Encode N x20 b).bind fun x24 =>
      (stb x24.1).bind fun x28 =>
      (law27_AddressBack_L3 N b x20 x24 x28 N 0 x28).bind fun p3 =>
      law27_AddressBack_J1 N b x20 x24 p3
def law27_AddressDetects_J3 (N : Nat) : Option Bool :=
  some true
def law27_AddressDetects_J5 (N : Nat) (x27 : ByteArray) (l0 : List Int) : Option Bool :=
  (address_Decode N x27 (strOf l0)).bind fun x118 =>
  if x118.2 == 0 then
    some false
  else
    law27_AddressDetects_J3 N
def law27_AddressDetects_J4 (N : Nat) (x27 : ByteArray) (x53 : Int) (x80 : List Int) (x97 : Bool) : Option Bool :=
  if x97 then
    (idx x80 (IntKind.i64.wrap ((IntKind.i64.wrap ((IntKind.i64.wrap ((x27.size : Int) + 1)) + x53)) + 1))).bind fun x106 =>
    (idx x80 (IntKind.i64.wrap ((IntKind.i64.wrap ((x27.size : Int) + 1)) + x53))).bind fun x110 =>
    (idx (x80.set (Int.toNat (IntKind.i64.wrap ((IntKind.i64.wrap ((x27.size : Int) + 1)) + x53))) x106) (IntKind.i64.wrap ((IntKind.i64.wrap ((IntKind.i64.wrap ((x27.size : Int) + 1)) + x53)) + 1))).bind fun x113 =>
    law27_AddressDetects_J5 N x27 ((x80.set (Int.toNat (IntKind.i64.wrap ((IntKind.i64.wrap ((x27.size : Int) + 1)) + x53))) x106).set (Int.toNat (IntKind.i64.wrap ((IntKind.i64.wrap ((IntKind.i64.wrap ((x27.size : Int) + 1)) + x53)) + 1))) x110)
  else
    law27_AddressDetects_J3 N
def law27_AddressDetects_J2 (N : Nat) (x27 : ByteArray) (x31 : ByteArray × Int) (x53 : Int) : Option Bool :=
  (stb x31.1).bind fun x80 =>
  if decide ((IntKind.i64.wrap ((IntKind.i64.wrap ((IntKind.i64.wrap ((x27.size : Int) + 1)) + x53)) + 1)) < (x80.length : Int)) then
    (idx x80 (IntKind.i64.wrap ((IntKind.i64.wrap ((x27.size : Int) + 1)) + x53))).bind fun x89 =>
    (idx x80 (IntKind.i64.wrap ((IntKind.i64.wrap ((IntKind.i64.wrap ((x27.size : Int) + 1)) + x53)) + 1))).bind fun x94 =>
    law27_AddressDetects_J4 N x27 x53 x80 (x89 != x94)
  else
    law27_AddressDetects_J4 N x27 x53 x80 false
def law27_AddressDetects_J1 (N : Nat) (vat : Int) (vby : Int) (x27 : ByteArray) (x31 : ByteArray × Int) (x43 : Bool) : Option Bool :=
  if x43 then
    some false
  else
    (mill_Mod N vat (IntKind.i64.wrap ((x31.1.size : Int) - (IntKind.i64.wrap ((x27.size : Int) + 1))))).bind fun x53 =>
    (stb x31.1).bind fun x56 =>
    (mill_Mod N vby 32).bind fun x58 =>
    (sidx (⟨#[113, 112, 122, 114, 121, 57, 120, 56, 103, 102, 50, 116, 118, 100, 119, 48, 115, 51, 106, 110, 53, 52, 107, 104, 99, 101, 54, 109, 117, 97, 55, 108]⟩) x58).bind fun x59 =>
    (idx x56 (IntKind.i64.wrap ((IntKind.i64.wrap ((x27.size : Int) + 1)) + x53))).bind fun x62 =>
    if x62 != x59 then
      (address_Decode N x27 (strOf (x56.set (Int.toNat (IntKind.i64.wrap ((IntKind.i64.wrap ((x27.size : Int) + 1)) + x53))) x59))).bind fun x74 =>
      if x74.2 == 0 then
        some false
      else
        law27_AddressDetects_J2 N x27 x31 x53
    else
      law27_AddressDetects_J2 N x27 x31 x53
def law27_AddressDetects (N : Nat) (vn : Int) (b : List Int) (vat : Int) (vby : Int) : Option Bool :=
  (law27_sane N).bind fun x21 =>
  if !x21 then
    some false
  else
    if decide (60 < (b.length : Int)) then
      some true
    else
      (law27_prefix N vn).bind fun x27 =>
      (address_Encode N x27 b).bind fun x31 =>
      if x31.2 != 0 then
        law27_AddressDetects_J1 N vat vby x27 x31 true
      else
        law27_AddressDetects_J1 N vat vby x27 x31 (decide ((x31.1.size : Int) < (IntKind.i64.wrap ((x27.size : Int) + 7))))
end Go.Proofs.YtidkaiebgjbekaaDoor
