import Derived.Test.YtidkaiebgjbekaaVmDrawG
import Derived.Test.YtidkaiebgjbekaaVmStr
set_option linter.unusedVariables false
set_option linter.unusedSimpArgs false
namespace Go.Proofs.Ytidkaiebgjbekaa
open Go Go.Vm

def address_Convert_J2 (N : Nat) (l0_1 : List Int) : Option (List Int) :=
  some l0_1
def address_Convert_J1 (N : Nat) (held : Int) (vn : Int) (l0 : List Int) : Option (List Int) :=
  if decide (0 < vn) then
    (shl .u32 held (IntKind.i64.wrap (5 - vn))).bind fun x45 =>
    (app 1 l0 [IntKind.u8.wrap x45]).bind fun x48 =>
    address_Convert_J2 N x48
  else
    address_Convert_J2 N l0
def address_Convert_J4 (N : Nat) (b : List Int) (x10 : Int) (rec : Int → Int → Int → (List Int) → Option (Int × Int × (List Int))) (held_2 : Int) (vn_2 : Int) (l0_3 : List Int) : Option (Int × Int × (List Int)) :=
  rec held_2 vn_2 (IntKind.i64.wrap (x10 + 1)) l0_3
def address_Convert_J5 (N : Nat) (b : List Int) (x10 : Int) (x12 : Int) (x15 : Int) (rec : Int → Int → Int → (List Int) → Option (Int × Int × (List Int))) (vn_3 : Int) (l0_4 : List Int) : Option (Int × Int × (List Int)) :=
  (shl .u32 1 vn_3).bind fun x35 =>
  address_Convert_J4 N b x10 rec (bits .and .u32 (bits .or .u32 x15 (IntKind.u32.wrap x12)) (IntKind.u32.wrap (x35 - 1))) vn_3 l0_4
def address_Convert_L6 (N : Nat) (b : List Int) (x10 : Int) (x12 : Int) (x15 : Int) : Nat → Int → (List Int) → Option (Int × (List Int))
  | 0, _, _ => none
  | m + 1, vn_4, l0_5 =>
    if decide (5 ≤ vn_4) then
      (shr .u32 (bits .or .u32 x15 (IntKind.u32.wrap x12)) (IntKind.i64.wrap (vn_4 - 5))).bind fun x28 =>
      (app 1 l0_5 [bits .and .u8 (IntKind.u8.wrap x28) 31]).bind fun x32 =>
      (address_Convert_L6 N b x10 x12 x15 m) (IntKind.i64.wrap (vn_4 - 5)) x32
    else
      some (vn_4, l0_5)
def address_Convert_L3 (N : Nat) (b : List Int) : Nat → Int → Int → Int → (List Int) → Option (Int × Int × (List Int))
  | 0, _, _, _, _ => none
  | m + 1, held_1, vn_1, x10, l0_2 =>
    if decide (x10 < (b.length : Int)) then
      (idx b x10).bind fun x12 =>
      (shl .u32 held_1 8).bind fun x15 =>
      (address_Convert_L6 N b x10 x12 x15 N (IntKind.i64.wrap (vn_1 + 8)) l0_2).bind fun p6 =>
      address_Convert_J5 N b x10 x12 x15 (address_Convert_L3 N b m) p6.1 p6.2
    else
      some (held_1, vn_1, l0_2)
def address_Convert (N : Nat) (b : List Int) : Option (List Int) :=
  (address_Convert_L3 N b N 0 0 0 []).bind fun p3 =>
  address_Convert_J1 N p3.1 p3.2.1 p3.2.2
def address_Back_J3 (N : Nat) (l0 : List Int) (x55 : Bool) : Option ((List Int) × Int) :=
  if x55 then
    some ([], 3)
  else
    some (l0, 0)
def address_Back_J2 (N : Nat) (held : Int) (vn : Int) (l0 : List Int) : Option ((List Int) × Int) :=
  if decide (5 ≤ vn) then
    address_Back_J3 N l0 true
  else
    address_Back_J3 N l0 (held != 0)
def address_Back_J5 (N : Nat) (d : List Int) (x22 : Int) (rec : Int → Int → Int → (List Int) → Option (Int × Int × (List Int))) (held_2 : Int) (vn_2 : Int) (l0_2 : List Int) : Option (Int × Int × (List Int)) :=
  rec held_2 vn_2 (IntKind.i64.wrap (x22 + 1)) l0_2
def address_Back_L4 (N : Nat) (d : List Int) : Nat → Int → Int → Int → (List Int) → Option (Int × Int × (List Int))
  | 0, _, _, _, _ => none
  | m + 1, held_1, vn_1, x22, l0_1 =>
    if decide (x22 < (d.length : Int)) then
      (idx d x22).bind fun x24 =>
      (shl .u32 held_1 5).bind fun x27 =>
      if decide (8 ≤ (IntKind.i64.wrap (vn_1 + 5))) then
        (shr .u32 (bits .or .u32 x27 (IntKind.u32.wrap x24)) (IntKind.i64.wrap ((IntKind.i64.wrap (vn_1 + 5)) - 8))).bind fun x40 =>
        (app 1 l0_1 [IntKind.u8.wrap x40]).bind fun x43 =>
        (shl .u32 1 (IntKind.i64.wrap ((IntKind.i64.wrap (vn_1 + 5)) - 8))).bind fun x46 =>
        address_Back_J5 N d x22 (address_Back_L4 N d m) (bits .and .u32 (bits .or .u32 x27 (IntKind.u32.wrap x24)) (IntKind.u32.wrap (x46 - 1))) (IntKind.i64.wrap ((IntKind.i64.wrap (vn_1 + 5)) - 8)) x43
      else
        address_Back_J5 N d x22 (address_Back_L4 N d m) (bits .or .u32 x27 (IntKind.u32.wrap x24)) (IntKind.i64.wrap (vn_1 + 5)) l0_1
    else
      some (held_1, vn_1, l0_1)
def address_Back_J1 (N : Nat) (d : List Int) : Option ((List Int) × Int) :=
  (address_Back_L4 N d N 0 0 0 []).bind fun p4 =>
  address_Back_J2 N p4.1 p4.2.1 p4.2.2
def address_Back_L6 (N : Nat) (d : List Int) : Nat → Int → Option (LR (Unit) ((List Int) × Int))
  | 0, _ => none
  | m + 1, x13 =>
    if decide (x13 < (d.length : Int)) then
      (idx d x13).bind fun x15 =>
      if decide (31 < x15) then
        some (.ret ([], 5))
      else
        (address_Back_L6 N d m) (IntKind.i64.wrap (x13 + 1))
    else
      some (.brk ())
def address_Back (N : Nat) (d : List Int) : Option ((List Int) × Int) :=
  (address_Back_L6 N d N 0).bind fun q => match q with
    | .ret v => some v
    | .brk p6 =>
      address_Back_J1 N d
def law27_sane_J1 (N : Nat) (x0 : Bool) : Option Bool :=
  some x0
def law27_sane (N : Nat) : Option Bool :=
  (address_Convert N [255]).bind fun x5 =>
  (address_Back N [31, 29]).bind fun x8 =>
  if (x5.length : Int) == 2 then
    (idx x5 0).bind fun x16 =>
    if x16 == 31 then
      (idx x5 1).bind fun x22 =>
      if x22 == 28 then
        law27_sane_J1 N (x8.2 == 3)
      else
        law27_sane_J1 N false
    else
      law27_sane_J1 N false
  else
    law27_sane_J1 N false
def ref27_Convert_J1 (N : Nat) (l0 : List Int) : Option (List Int) :=
  some l0
def ref27_Convert_J3 (N : Nat) (b : List Int) (vat : Int) (rec : Int → (List Int) → Option (List Int)) (l0_2 : List Int) : Option (List Int) :=
  rec (IntKind.i64.wrap (vat + 5)) l0_2
def ref27_Convert_J4 (N : Nat) (b : List Int) (vat : Int) (l0_1 : List Int) (rec : Int → (List Int) → Option (List Int)) (d : Int) : Option (List Int) :=
  (app 1 l0_1 [d]).bind fun x44 =>
  ref27_Convert_J3 N b vat rec x44
def ref27_Convert_J6 (N : Nat) (b : List Int) (vat : Int) (l0_1 : List Int) (vi : Int) (rec : Int → Int → Option Int) (d_2 : Int) : Option Int :=
  rec d_2 (IntKind.i64.wrap (vi + 1))
def ref27_Convert_L5 (N : Nat) (b : List Int) (vat : Int) (l0_1 : List Int) : Nat → Int → Int → Option Int
  | 0, _, _ => none
  | m + 1, d_1, vi =>
    if decide (vi < (IntKind.i64.wrap (vat + 5))) then
      (shl .u8 d_1 1).bind fun x22 =>
      if decide (vi < (IntKind.i64.wrap (8 * (b.length : Int)))) then
        (idx b (IntKind.i64.wrap (Int.tdiv vi 8))).bind fun x32 =>
        (shr .u8 x32 (IntKind.u64.wrap (IntKind.i64.wrap (7 - (Int.tmod vi 8))))).bind fun x38 =>
        ref27_Convert_J6 N b vat l0_1 vi (ref27_Convert_L5 N b vat l0_1 m) (bits .or .u8 x22 (bits .and .u8 x38 1))
      else
        ref27_Convert_J6 N b vat l0_1 vi (ref27_Convert_L5 N b vat l0_1 m) x22
    else
      some d_1
def ref27_Convert_L2 (N : Nat) (b : List Int) : Nat → Int → (List Int) → Option (List Int)
  | 0, _, _ => none
  | m + 1, vat, l0_1 =>
    if decide (vat < (IntKind.i64.wrap (8 * (b.length : Int)))) then
      (ref27_Convert_L5 N b vat l0_1 N 0 vat).bind fun p5 =>
      ref27_Convert_J4 N b vat l0_1 (ref27_Convert_L2 N b m) p5
    else
      some l0_1
def ref27_Convert (N : Nat) (b : List Int) : Option (List Int) :=
  (ref27_Convert_L2 N b N 0 []).bind fun p2 =>
  ref27_Convert_J1 N p2
def ref27_Back_J2 (N : Nat) (d : List Int) (l0 : List Int) : Option ((List Int) × Int) :=
  if decide (5 ≤ (IntKind.i64.wrap ((IntKind.i64.wrap (5 * (d.length : Int))) - (IntKind.i64.wrap (8 * (l0.length : Int)))))) then
    some ([], 3)
  else
    some (l0, 0)
def ref27_Back_J4 (N : Nat) (d : List Int) (vi : Int) (rec : Int → (List Int) → Option (LR ((List Int)) ((List Int) × Int))) (l0_2 : List Int) : Option (LR ((List Int)) ((List Int) × Int)) :=
  rec (IntKind.i64.wrap (vi + 1)) l0_2
def ref27_Back_L3 (N : Nat) (d : List Int) : Nat → Int → (List Int) → Option (LR ((List Int)) ((List Int) × Int))
  | 0, _, _ => none
  | m + 1, vi, l0_1 =>
    if decide (vi < (IntKind.i64.wrap (5 * (d.length : Int)))) then
      (idx d (IntKind.i64.wrap (Int.tdiv vi 5))).bind fun x34 =>
      (shr .u8 x34 (IntKind.u64.wrap (IntKind.i64.wrap (4 - (Int.tmod vi 5))))).bind fun x40 =>
      if decide (vi < (IntKind.i64.wrap (8 * (l0_1.length : Int)))) then
        (idx l0_1 (IntKind.i64.wrap (Int.tdiv vi 8))).bind fun x53 =>
        (shl .u8 (bits .and .u8 x40 1) (IntKind.u64.wrap (IntKind.i64.wrap (7 - (Int.tmod vi 8))))).bind fun x60 =>
        ref27_Back_J4 N d vi (ref27_Back_L3 N d m) (l0_1.set (Int.toNat (IntKind.i64.wrap (Int.tdiv vi 8))) (bits .or .u8 x53 x60))
      else
        if (bits .and .u8 x40 1) != 0 then
          some (.ret ([], 3))
        else
          ref27_Back_J4 N d vi (ref27_Back_L3 N d m) l0_1
    else
      some (.brk l0_1)
def ref27_Back_J1 (N : Nat) (d : List Int) : Option ((List Int) × Int) :=
  (mks 1 0 (IntKind.i64.wrap (Int.tdiv (IntKind.i64.wrap (5 * (d.length : Int))) 8))).bind fun x23 =>
  (ref27_Back_L3 N d N 0 x23).bind fun q => match q with
    | .ret v => some v
    | .brk p3 =>
      ref27_Back_J2 N d p3
def ref27_Back_L5 (N : Nat) (d : List Int) : Nat → Int → Option (LR (Unit) ((List Int) × Int))
  | 0, _ => none
  | m + 1, vi_1 =>
    if decide (vi_1 < (d.length : Int)) then
      (idx d vi_1).bind fun x16 =>
      if decide (31 < x16) then
        some (.ret ([], 5))
      else
        (ref27_Back_L5 N d m) (IntKind.i64.wrap (vi_1 + 1))
    else
      some (.brk ())
def ref27_Back (N : Nat) (d : List Int) : Option ((List Int) × Int) :=
  (ref27_Back_L5 N d N 0).bind fun q => match q with
    | .ret v => some v
    | .brk p5 =>
      ref27_Back_J1 N d
def ref01_Same (N : Nat) (va : List Int) (b : List Int) : Option Bool :=
  some ((strOf va).toList == (strOf b).toList)
def law27_AddressDigits_J3 (N : Nat) (b : List Int) : Option Bool :=
  (address_Convert N b).bind fun x67 =>
  (ref27_Convert N b).bind fun x69 =>
  (ref01_Same N x67 x69).bind fun x70 =>
  some x70
def law27_AddressDigits_J5 (N : Nat) (b : List Int) (d : List Int) (l0 : List Int) (x39 : (List Int)) (x42 : Int) (rec : Int → Option (LR (Unit) (Bool))) (x64 : Bool) : Option (LR (Unit) (Bool)) :=
  if x64 then
    some (.ret false)
  else
    rec (IntKind.i64.wrap (x42 + 1))
def law27_AddressDigits_L4 (N : Nat) (b : List Int) (d : List Int) (l0 : List Int) (x39 : (List Int)) : Nat → Int → Option (LR (Unit) (Bool))
  | 0, _ => none
  | m + 1, x42 =>
    if decide (x42 < (3 : Int)) then
      (idx [d, l0, x39] x42).bind fun x44 =>
      (address_Back N x44).bind fun x48 =>
      (ref27_Back N x44).bind fun x53 =>
      if x48.2 != x53.2 then
        law27_AddressDigits_J5 N b d l0 x39 x42 (law27_AddressDigits_L4 N b d l0 x39 m) true
      else
        (ref01_Same N x48.1 x53.1).bind fun x62 =>
        law27_AddressDigits_J5 N b d l0 x39 x42 (law27_AddressDigits_L4 N b d l0 x39 m) (!x62)
    else
      some (.brk ())
def law27_AddressDigits_J2 (N : Nat) (b : List Int) (d : List Int) (l0 : List Int) : Option Bool :=
  (ref27_Convert N b).bind fun x39 =>
  (law27_AddressDigits_L4 N b d l0 x39 N 0).bind fun q => match q with
    | .ret v => some v
    | .brk p4 =>
      law27_AddressDigits_J3 N b
def law27_AddressDigits_L6 (N : Nat) (b : List Int) (d : List Int) : Nat → Int → (List Int) → Option (List Int)
  | 0, _, _ => none
  | m + 1, x26, l0_1 =>
    if decide (x26 < (d.length : Int)) then
      (idx d x26).bind fun x28 =>
      (app 1 l0_1 [Int.tmod x28 32]).bind fun x34 =>
      (law27_AddressDigits_L6 N b d m) (IntKind.i64.wrap (x26 + 1)) x34
    else
      some l0_1
def law27_AddressDigits_J1 (N : Nat) (b : List Int) (d : List Int) (x23 : Bool) : Option Bool :=
  if x23 then
    some true
  else
    (law27_AddressDigits_L6 N b d N 0 []).bind fun p6 =>
    law27_AddressDigits_J2 N b d p6
def law27_AddressDigits (N : Nat) (b : List Int) (d : List Int) : Option Bool :=
  (law27_sane N).bind fun x14 =>
  if !x14 then
    some false
  else
    if decide (120 < (b.length : Int)) then
      law27_AddressDigits_J1 N b d true
    else
      law27_AddressDigits_J1 N b d (decide (200 < (d.length : Int)))
def mill_Mod_J1 (N : Nat) (vr : Int) : Option Int :=
  some vr
def mill_Mod (N : Nat) (v : Int) (vn : Int) : Option Int :=
  (rem v vn).bind fun x8 =>
  if decide (x8 < 0) then
    mill_Mod_J1 N (IntKind.i64.wrap (x8 + vn))
  else
    mill_Mod_J1 N x8
def law27_prefix (N : Nat) (vn : Int) : Option ByteArray :=
  (mill_Mod N vn 5).bind fun x5 =>
  (idx [⟨#[108, 99]⟩, ⟨#[97]⟩, ⟨#[97, 98, 99, 100, 101, 102, 103, 104, 105, 106]⟩, ⟨#[122]⟩, ⟨#[116, 108, 99]⟩] x5).bind fun x6 =>
  some x6
def address_Prefix_J2 (N : Nat) (x2 : Bool) : Option Bool :=
  some x2
def address_Prefix_J1 (N : Nat) (vs : ByteArray) : Option Bool :=
  if decide (1 ≤ (vs.size : Int)) then
    address_Prefix_J2 N (decide ((vs.size : Int) ≤ 10))
  else
    address_Prefix_J2 N false
def address_Prefix_J4 (N : Nat) (vs : ByteArray) (x6 : Int) (rec : Int → Option (LR (Unit) (Bool))) (x18 : Bool) : Option (LR (Unit) (Bool)) :=
  if x18 then
    some (.ret false)
  else
    rec (IntKind.i64.wrap (x6 + 1))
def address_Prefix_L3 (N : Nat) (vs : ByteArray) : Nat → Int → Option (LR (Unit) (Bool))
  | 0, _ => none
  | m + 1, x6 =>
    if decide (x6 < (vs.size : Int)) then
      (sidx vs x6).bind fun x11 =>
      if decide (x11 < 97) then
        address_Prefix_J4 N vs x6 (address_Prefix_L3 N vs m) true
      else
        address_Prefix_J4 N vs x6 (address_Prefix_L3 N vs m) (decide (122 < x11))
    else
      some (.brk ())
def address_Prefix (N : Nat) (vs : ByteArray) : Option Bool :=
  (address_Prefix_L3 N vs N 0).bind fun q => match q with
    | .ret v => some v
    | .brk p3 =>
      address_Prefix_J1 N vs
def ref27_Prefix_J2 (N : Nat) (x2 : Bool) : Option Bool :=
  some x2
def ref27_Prefix_J1 (N : Nat) (vs : ByteArray) : Option Bool :=
  if decide (1 ≤ (vs.size : Int)) then
    ref27_Prefix_J2 N (decide ((vs.size : Int) ≤ 10))
  else
    ref27_Prefix_J2 N false
def ref27_Prefix_J4 (N : Nat) (vs : ByteArray) (vi : Int) (rec : Int → Option (LR (Unit) (Bool))) (x19 : Bool) : Option (LR (Unit) (Bool)) :=
  if x19 then
    some (.ret false)
  else
    rec (IntKind.i64.wrap (vi + 1))
def ref27_Prefix_L3 (N : Nat) (vs : ByteArray) : Nat → Int → Option (LR (Unit) (Bool))
  | 0, _ => none
  | m + 1, vi =>
    if decide (vi < (vs.size : Int)) then
      (sidx vs vi).bind fun x12 =>
      if decide (x12 < 97) then
        ref27_Prefix_J4 N vs vi (ref27_Prefix_L3 N vs m) true
      else
        ref27_Prefix_J4 N vs vi (ref27_Prefix_L3 N vs m) (decide (122 < x12))
    else
      some (.brk ())
def ref27_Prefix (N : Nat) (vs : ByteArray) : Option Bool :=
  (ref27_Prefix_L3 N vs N 0).bind fun q => match q with
    | .ret v => some v
    | .brk p3 =>
      ref27_Prefix_J1 N vs
def law27_AddressPrefix_J1 (N : Nat) (x8 : Bool) : Option Bool :=
  some x8
def law27_AddressPrefix (N : Nat) (vs : ByteArray) (vn : Int) (vat : Int) (vby : Int) : Option Bool :=
  (law27_sane N).bind fun x10 =>
  if !x10 then
    some false
  else
    if decide (100 < (vs.size : Int)) then
      some true
    else
      (law27_prefix N vn).bind fun x16 =>
      (stb x16).bind fun x17 =>
      (mill_Mod N vat (x17.length : Int)).bind fun x22 =>
      (idx x17 x22).bind fun x25 =>
      (address_Prefix N vs).bind fun x27 =>
      (ref27_Prefix N vs).bind fun x29 =>
      if x27 == x29 then
        (address_Prefix N x16).bind fun x34 =>
        if x34 then
          (address_Prefix N (strOf (x17.set (Int.toNat x22) (IntKind.u8.wrap vby)))).bind fun x39 =>
          (ref27_Prefix N (strOf (x17.set (Int.toNat x22) (IntKind.u8.wrap vby)))).bind fun x42 =>
          law27_AddressPrefix_J1 N (x39 == x42)
        else
          law27_AddressPrefix_J1 N false
      else
        law27_AddressPrefix_J1 N false
end Go.Proofs.Ytidkaiebgjbekaa
